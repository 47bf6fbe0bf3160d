/- Texts VecA, EntA, App, RowO, OrdA, OrdB. -/
import Derived.Test.YtbjpoamnglfjeaaMg4
import Derived.Test.YtbjpoamnglfjeaaProg
import Derived.Lib.Hide
import Derived.Tactics
import Derived.WalkKit
import Derived.KernelRfl
import Derived.RowKit3
import Derived.Outline
import Derived.BigQuiet
import Derived.Laws.Cover3
import Derived.Laws.BitsAllLaws
/- Walks of package vector, and of the library's functions on rows of numbers: may, Right, kind, both, Max, Covers, Total, Zero, Clone, Equal. -/
set_option linter.unusedVariables false
set_option linter.unusedSimpArgs false
namespace Go.Proofs.Ytbjpoamnglfjeaa
open Go.RowKit Cb

theorem vmay_any (n : Int) (w : World) : Calls Try.prog 108 #[.int .i64 n] w fun e w' => e = .returned (.bool (mayB n)) ∧ w = w' := by
  have hd : ∀ b, mayB n = b → Hid (mayB n = b) := fun _ h => h
  by_cases h : 0 ≤ n
  · have H := hd _ (by rw [mayB, decide_eq_true h, Bool.true_and])
    go_enter Try.func108, Try.ntmps108
    go_wp2
    go_ret
    rw [H.out]; exact ⟨rfl, rfl⟩
  · have H := hd _ (by rw [mayB, decide_eq_false h, Bool.false_and])
    go_enter Try.func108, Try.ntmps108
    go_wp2
    go_ret
    rw [H.out]; exact ⟨rfl, rfl⟩
theorem vright1_any (n : Int) (w : World) : Calls Try.prog 107 #[.int .i64 n] w fun e w' => e = .returned (.bool (!mayB n)) ∧ Chg No w w' := by
  have hcall := Lib.hid (vmay_any n w)
  generalize mayB n = b at hcall ⊢
  go_enter Try.func107, Try.ntmps107
  go_wp2_with (with_reducible first | refine stop_append ?_ | refine stop_copy ?_ | refine stop_make ?_ | refine stop_lookup ?_ | refine stop_update ?_ | refine stop_slice ?_ | refine stop_range ?_ | refine stop_next ?_ | refine stop_convert ⟨_, rfl⟩ ?_ | refine stop_convertB ⟨_, _, _, rfl⟩ ?_ | refine stop_eqSlice ⟨_, _, rfl⟩ ?_)
  refine hcall.out.mono ?_
  rintro e w1 ⟨rfl, rfl⟩
  go_wp2_with (with_reducible first | refine stop_append ?_ | refine stop_copy ?_ | refine stop_make ?_ | refine stop_lookup ?_ | refine stop_update ?_ | refine stop_slice ?_ | refine stop_range ?_ | refine stop_next ?_ | refine stop_convert ⟨_, rfl⟩ ?_ | refine stop_convertB ⟨_, _, _, rfl⟩ ?_ | refine stop_eqSlice ⟨_, _, rfl⟩ ?_)
  go_ret
  exact ⟨rfl, Chg.refl _ _⟩
def idxI (p : Int → Bool) (xs : List Int) : Int := match xs.findIdx? p with | some i => i | none => -1
set_option maxRecDepth 100000 in
set_option maxHeartbeats 1000000 in
theorem indexI_any (F : Nat → Prop) (v : Value) (xs : List Int) (p : Int → Bool) (g : FuncId) (hg : ∀ args W, (callFunc g args).run Try.prog W = .ok (.enter g args) W) (w : World) (hs : Sl F w v xs) (hl : xs.length * 16 ≤ 140737488351232)
    (hp : ∀ x W, Chg No w W → Calls Try.prog g #[.int .i64 x] W fun e w' => e = .returned (.bool (p x)) ∧ Chg No W w') :
    Calls Try.prog 115 #[v, .func (.func g) #[] #[]] w fun e w' => e = .returned (.int .i64 (idxI p xs)) ∧ Chg No w w' := by
  obtain ⟨A, c, rfl, hc, _⟩ := id hs
  have Hp := Lib.hid hp; clear hp
  go_enter Try.func115, Try.ntmps115
  go_wp2_with (with_reducible first | refine stop_append ?_ | refine stop_copy ?_ | refine stop_make ?_ | refine stop_lookup ?_ | refine stop_update ?_ | refine stop_slice ?_ | refine stop_range ?_ | refine stop_next ?_ | refine stop_convert ⟨_, rfl⟩ ?_ | refine stop_convertB ⟨_, _, _, rfl⟩ ?_ | refine stop_eqSlice ⟨_, _, rfl⟩ ?_)
  go_loopw [8] (fun v8 wr => ∃ k : Nat, k ≤ xs.length ∧ v8 = .int .i64 k ∧ Chg No w wr ∧ ∀ i (h : i < xs.length), i < k → p xs[i] = false) (fun v8 _ => xs.length - (intOf v8).toNat)
  case atStart => exact ⟨0, by omega, rfl, Chg.refl _ _, fun _ _ h => absurd h (by omega)⟩
  case round =>
    obtain ⟨k, hk, rfl, hc1, hall⟩ := hrel
    have Hall := Lib.hid hall; clear hall
    by_cases hlt : k < xs.length
    · obtain ⟨b, o, d, rfl, _, hbl, rfl, ha⟩ := (hs.keepNo hc1).get k hlt
      have ha0 := ha 0 _ rfl
      simp only [show Rep.n Int = 1 from rfl, Nat.mul_one, Nat.add_zero] at ha0
      clear ha hs
      generalize hx : xs[k] = x at ha0
      have Hx := Lib.hid hx; clear hx
      have Hcall := Lib.hid (Hp.out x wr hc1)
      by_cases hpx : p x = true
      · have hi : idxI p xs = k := by
          simp only [idxI]
          rw [show xs.findIdx? p = some k from List.findIdx?_eq_some_iff_getElem.2 ⟨hlt, by rw [Hx.out]; exact hpx, fun j hj => by rw [Hall.out j (by omega) hj]; simp⟩]
        have Hi := Lib.hid hi
        have Hpx := Lib.hid hpx
        clear hi hpx
        go_wp2_with (with_reducible first | refine stop_append ?_ | refine stop_copy ?_ | refine stop_make ?_ | refine stop_lookup ?_ | refine stop_update ?_ | refine stop_slice ?_ | refine stop_range ?_ | refine stop_next ?_ | refine stop_convert ⟨_, rfl⟩ ?_ | refine stop_convertB ⟨_, _, _, rfl⟩ ?_ | refine stop_eqSlice ⟨_, _, rfl⟩ ?_)
        refine Hcall.out.mono ?_
        rw [Hpx.out]
        rintro e w1 ⟨rfl, hc2⟩
        go_wp2_with (with_reducible first | refine stop_append ?_ | refine stop_copy ?_ | refine stop_make ?_ | refine stop_lookup ?_ | refine stop_update ?_ | refine stop_slice ?_ | refine stop_range ?_ | refine stop_next ?_ | refine stop_convert ⟨_, rfl⟩ ?_ | refine stop_convertB ⟨_, _, _, rfl⟩ ?_ | refine stop_eqSlice ⟨_, _, rfl⟩ ?_)
        go_ret
        rw [Hi.out]
        exact ⟨rfl, hc1.trans hc2⟩
      · have hpx : p x = false := by simpa using hpx
        have Hpx := Lib.hid hpx
        clear hpx
        go_wp2_with (with_reducible first | refine stop_append ?_ | refine stop_copy ?_ | refine stop_make ?_ | refine stop_lookup ?_ | refine stop_update ?_ | refine stop_slice ?_ | refine stop_range ?_ | refine stop_next ?_ | refine stop_convert ⟨_, rfl⟩ ?_ | refine stop_convertB ⟨_, _, _, rfl⟩ ?_ | refine stop_eqSlice ⟨_, _, rfl⟩ ?_)
        refine Hcall.out.mono ?_
        rw [Hpx.out]
        rintro e w1 ⟨rfl, hc2⟩
        go_wp2_with (with_reducible first | refine stop_append ?_ | refine stop_copy ?_ | refine stop_make ?_ | refine stop_lookup ?_ | refine stop_update ?_ | refine stop_slice ?_ | refine stop_range ?_ | refine stop_next ?_ | refine stop_convert ⟨_, rfl⟩ ?_ | refine stop_convertB ⟨_, _, _, rfl⟩ ?_ | refine stop_eqSlice ⟨_, _, rfl⟩ ?_)
        go_roundw
        case rel => exact ⟨k + 1, by omega, by go_num, hc1.trans hc2, fun i h hi => by
          rcases Nat.lt_or_ge i k with h' | h'
          · exact Hall.out i h h'
          · obtain rfl : i = k := by omega
            rw [Hx.out]; exact Hpx.out⟩
        case measure => simp [intOf]; omega
    · have hi : idxI p xs = -1 := by
        simp only [idxI]
        rw [List.findIdx?_eq_none_iff.2 (fun x hx => by
          obtain ⟨i, hi, rfl⟩ := List.mem_iff_getElem.1 hx
          exact Hall.out i hi (by omega))]
      have Hi := Lib.hid hi
      clear hi hs
      go_wp2_with (with_reducible first | refine stop_append ?_ | refine stop_copy ?_ | refine stop_make ?_ | refine stop_lookup ?_ | refine stop_update ?_ | refine stop_slice ?_ | refine stop_range ?_ | refine stop_next ?_ | refine stop_convert ⟨_, rfl⟩ ?_ | refine stop_convertB ⟨_, _, _, rfl⟩ ?_ | refine stop_eqSlice ⟨_, _, rfl⟩ ?_)
      go_ret
      rw [Hi.out]
      exact ⟨rfl, hc1⟩
theorem containsI_any (F : Nat → Prop) (v : Value) (xs : List Int) (p : Int → Bool) (g : FuncId) (hg : ∀ args W, (callFunc g args).run Try.prog W = .ok (.enter g args) W) (w : World) (hs : Sl F w v xs) (hl : xs.length * 16 ≤ 140737488351232)
    (hp : ∀ x W, Chg No w W → Calls Try.prog g #[.int .i64 x] W fun e w' => e = .returned (.bool (p x)) ∧ Chg No W w') :
    Calls Try.prog 106 #[v, .func (.func g) #[] #[]] w fun e w' => e = .returned (.bool (xs.any p)) ∧ Chg No w w' := by
  have Hcall := Lib.hid (indexI_any F v xs p g hg w hs hl hp)
  clear hp hs
  have hr : (0 ≤ idxI p xs ∧ xs.any p = true) ∨ (idxI p xs < 0 ∧ xs.any p = false) := by
    simp only [idxI]
    cases h : xs.findIdx? p with
    | some i =>
      left
      obtain ⟨hi, hpi, _⟩ := List.findIdx?_eq_some_iff_getElem.1 h
      exact ⟨by simp, List.any_eq_true.2 ⟨_, List.getElem_mem hi, hpi⟩⟩
    | none =>
      right
      exact ⟨by simp, by rw [List.any_eq_false]; intro x hx; rw [List.findIdx?_eq_none_iff.1 h x hx]; simp⟩
  generalize idxI p xs = i at Hcall hr
  generalize xs.any p = r at hr ⊢
  rcases hr with ⟨hi, hr⟩ | ⟨hi, hr⟩
  all_goals
    have Hr := Lib.hid hr; clear hr
    have hib := hi
    go_enter Try.func106, Try.ntmps106
    go_wp2_with (with_reducible first | refine stop_append ?_ | refine stop_copy ?_ | refine stop_make ?_ | refine stop_lookup ?_ | refine stop_update ?_ | refine stop_slice ?_ | refine stop_range ?_ | refine stop_next ?_ | refine stop_convert ⟨_, rfl⟩ ?_ | refine stop_convertB ⟨_, _, _, rfl⟩ ?_ | refine stop_eqSlice ⟨_, _, rfl⟩ ?_)
    refine Hcall.out.mono ?_
    rintro e w1 ⟨rfl, hc2⟩
    go_wp2_with (with_reducible first | refine stop_append ?_ | refine stop_copy ?_ | refine stop_make ?_ | refine stop_lookup ?_ | refine stop_update ?_ | refine stop_slice ?_ | refine stop_range ?_ | refine stop_next ?_ | refine stop_convert ⟨_, rfl⟩ ?_ | refine stop_convertB ⟨_, _, _, rfl⟩ ?_ | refine stop_eqSlice ⟨_, _, rfl⟩ ?_)
    go_ret
    rw [Hr.out]
    exact ⟨by simp [hi], hc2⟩
theorem vright_any (F : Nat → Prop) (v : Value) (xs : List Int) (w : World) (hs : Sl F w v xs) (hl : xs.length * 8 ≤ 140737488355328) :
    Calls Try.prog 93 #[v] w fun e w' => e = .returned (.bool (vright xs)) ∧ Chg No w w' := by
  obtain ⟨A, c, rfl, hc, _⟩ := id hs
  by_cases h : 1 ≤ xs.length ∧ xs.length ≤ 8
  · have Hcall := Lib.hid (fun g hg hp => containsI_any F _ xs (fun n => !mayB n) g hg w hs (by omega) hp)
    have hr : vright xs = !(xs.any (fun n => !mayB n)) := by simp [vright, h.1, h.2]
    have Hr := Lib.hid hr
    clear hr
    obtain ⟨h1, h8⟩ := h
    generalize xs.any (fun n => !mayB n) = b at Hcall Hr
    clear hs
    go_enter Try.func93, Try.ntmps93
    go_wp2_with (with_reducible first | refine stop_append ?_ | refine stop_copy ?_ | refine stop_make ?_ | refine stop_lookup ?_ | refine stop_update ?_ | refine stop_slice ?_ | refine stop_range ?_ | refine stop_next ?_ | refine stop_convert ⟨_, rfl⟩ ?_ | refine stop_convertB ⟨_, _, _, rfl⟩ ?_ | refine stop_eqSlice ⟨_, _, rfl⟩ ?_)
    refine (Hcall.out 107 (fun args W => by kernel_rfl) (fun x W _ => vright1_any x W)).mono ?_
    rintro e w1 ⟨rfl, hc2⟩
    go_wp2_with (with_reducible first | refine stop_append ?_ | refine stop_copy ?_ | refine stop_make ?_ | refine stop_lookup ?_ | refine stop_update ?_ | refine stop_slice ?_ | refine stop_range ?_ | refine stop_next ?_ | refine stop_convert ⟨_, rfl⟩ ?_ | refine stop_convertB ⟨_, _, _, rfl⟩ ?_ | refine stop_eqSlice ⟨_, _, rfl⟩ ?_)
    go_ret
    rw [Hr.out]
    exact ⟨rfl, hc2⟩
  · have hr : vright xs = false := by
      simp only [vright, Bool.and_eq_false_iff, decide_eq_false_iff_not]; omega
    have Hr := Lib.hid hr
    clear hr hs
    by_cases h1 : 1 ≤ xs.length
    · have h8 : ¬ xs.length ≤ 8 := fun h8 => h ⟨h1, h8⟩
      clear h
      go_enter Try.func93, Try.ntmps93
      go_wp2_with (with_reducible first | refine stop_append ?_ | refine stop_copy ?_ | refine stop_make ?_ | refine stop_lookup ?_ | refine stop_update ?_ | refine stop_slice ?_ | refine stop_range ?_ | refine stop_next ?_ | refine stop_convert ⟨_, rfl⟩ ?_ | refine stop_convertB ⟨_, _, _, rfl⟩ ?_ | refine stop_eqSlice ⟨_, _, rfl⟩ ?_)
      go_ret
      rw [Hr.out]
      exact ⟨rfl, Chg.refl _ _⟩
    · have h1' : xs.length = 0 := by omega
      rw [h1']
      clear h
      go_enter Try.func93, Try.ntmps93
      go_wp2_with (with_reducible first | refine stop_append ?_ | refine stop_copy ?_ | refine stop_make ?_ | refine stop_lookup ?_ | refine stop_update ?_ | refine stop_slice ?_ | refine stop_range ?_ | refine stop_next ?_ | refine stop_convert ⟨_, rfl⟩ ?_ | refine stop_convertB ⟨_, _, _, rfl⟩ ?_ | refine stop_eqSlice ⟨_, _, rfl⟩ ?_)
      go_ret
      rw [Hr.out]
      exact ⟨rfl, Chg.refl _ _⟩
theorem vkind_any (F G : Nat → Prop) (v u : Value) (xs ys : List Int) (w : World) (hs : Sl F w v xs) (ht : Sl G w u ys) (hl : xs.length * 8 ≤ 140737488355328) (hl' : ys.length * 8 ≤ 140737488355328) :
    Calls Try.prog 116 #[v, u] w fun e w' => e = .returned (.bool (kindB xs ys)) ∧ Chg No w w' := by
  obtain ⟨A, c, rfl, hc, _⟩ := id hs
  obtain ⟨B, d, rfl, hd, _⟩ := id ht
  have Hx := Lib.hid (fun W hW => vright_any F _ xs W (hs.keepNo hW) hl)
  have Hy := Lib.hid (fun W hW => vright_any G _ ys W (ht.keepNo hW) hl')
  clear hs ht
  by_cases hx : vright xs = true
  · by_cases hy : vright ys = true
    · have Hr := Lib.hid (show kindB xs ys = decide (xs.length = ys.length) by simp [kindB, hx, hy])
      have Hx1 := Lib.hid hx
      have Hy1 := Lib.hid hy
      clear hx hy
      by_cases he : xs.length = ys.length
      · rw [← he] at Hy Hr ⊢
        clear he hl' hd
        go_enter Try.func116, Try.ntmps116
        go_wp2_with (with_reducible first | refine stop_append ?_ | refine stop_copy ?_ | refine stop_make ?_ | refine stop_lookup ?_ | refine stop_update ?_ | refine stop_slice ?_ | refine stop_range ?_ | refine stop_next ?_ | refine stop_convert ⟨_, rfl⟩ ?_ | refine stop_convertB ⟨_, _, _, rfl⟩ ?_ | refine stop_eqSlice ⟨_, _, rfl⟩ ?_)
        refine (Hx.out w (Chg.refl _ _)).mono ?_
        rintro e w1 ⟨rfl, hc1⟩
        rw [Hx1.out]
        go_wp2_with (with_reducible first | refine stop_append ?_ | refine stop_copy ?_ | refine stop_make ?_ | refine stop_lookup ?_ | refine stop_update ?_ | refine stop_slice ?_ | refine stop_range ?_ | refine stop_next ?_ | refine stop_convert ⟨_, rfl⟩ ?_ | refine stop_convertB ⟨_, _, _, rfl⟩ ?_ | refine stop_eqSlice ⟨_, _, rfl⟩ ?_)
        refine (Hy.out w1 hc1).mono ?_
        rintro e w2 ⟨rfl, hc2⟩
        rw [Hy1.out]
        go_wp2_with (with_reducible first | refine stop_append ?_ | refine stop_copy ?_ | refine stop_make ?_ | refine stop_lookup ?_ | refine stop_update ?_ | refine stop_slice ?_ | refine stop_range ?_ | refine stop_next ?_ | refine stop_convert ⟨_, rfl⟩ ?_ | refine stop_convertB ⟨_, _, _, rfl⟩ ?_ | refine stop_eqSlice ⟨_, _, rfl⟩ ?_)
        go_ret
        rw [Hr.out]
        exact ⟨by simp, hc1.trans hc2⟩
      · have he2 : ((xs.length : Int) == ys.length) = false := by simp; omega
        go_enter Try.func116, Try.ntmps116
        go_wp2_with (with_reducible first | refine stop_append ?_ | refine stop_copy ?_ | refine stop_make ?_ | refine stop_lookup ?_ | refine stop_update ?_ | refine stop_slice ?_ | refine stop_range ?_ | refine stop_next ?_ | refine stop_convert ⟨_, rfl⟩ ?_ | refine stop_convertB ⟨_, _, _, rfl⟩ ?_ | refine stop_eqSlice ⟨_, _, rfl⟩ ?_)
        refine (Hx.out w (Chg.refl _ _)).mono ?_
        rintro e w1 ⟨rfl, hc1⟩
        rw [Hx1.out]
        go_wp2_with (with_reducible first | refine stop_append ?_ | refine stop_copy ?_ | refine stop_make ?_ | refine stop_lookup ?_ | refine stop_update ?_ | refine stop_slice ?_ | refine stop_range ?_ | refine stop_next ?_ | refine stop_convert ⟨_, rfl⟩ ?_ | refine stop_convertB ⟨_, _, _, rfl⟩ ?_ | refine stop_eqSlice ⟨_, _, rfl⟩ ?_)
        refine (Hy.out w1 hc1).mono ?_
        rintro e w2 ⟨rfl, hc2⟩
        rw [Hy1.out]
        go_wp2_with (with_reducible first | refine stop_append ?_ | refine stop_copy ?_ | refine stop_make ?_ | refine stop_lookup ?_ | refine stop_update ?_ | refine stop_slice ?_ | refine stop_range ?_ | refine stop_next ?_ | refine stop_convert ⟨_, rfl⟩ ?_ | refine stop_convertB ⟨_, _, _, rfl⟩ ?_ | refine stop_eqSlice ⟨_, _, rfl⟩ ?_)
        go_ret
        rw [Hr.out]
        exact ⟨by simp [he], hc1.trans hc2⟩
    · have hy : vright ys = false := by simpa using hy
      have Hr := Lib.hid (show kindB xs ys = false by simp [kindB, hx, hy])
      have Hx1 := Lib.hid hx
      have Hy1 := Lib.hid hy
      clear hx hy
      go_enter Try.func116, Try.ntmps116
      go_wp2_with (with_reducible first | refine stop_append ?_ | refine stop_copy ?_ | refine stop_make ?_ | refine stop_lookup ?_ | refine stop_update ?_ | refine stop_slice ?_ | refine stop_range ?_ | refine stop_next ?_ | refine stop_convert ⟨_, rfl⟩ ?_ | refine stop_convertB ⟨_, _, _, rfl⟩ ?_ | refine stop_eqSlice ⟨_, _, rfl⟩ ?_)
      refine (Hx.out w (Chg.refl _ _)).mono ?_
      rintro e w1 ⟨rfl, hc1⟩
      rw [Hx1.out]
      go_wp2_with (with_reducible first | refine stop_append ?_ | refine stop_copy ?_ | refine stop_make ?_ | refine stop_lookup ?_ | refine stop_update ?_ | refine stop_slice ?_ | refine stop_range ?_ | refine stop_next ?_ | refine stop_convert ⟨_, rfl⟩ ?_ | refine stop_convertB ⟨_, _, _, rfl⟩ ?_ | refine stop_eqSlice ⟨_, _, rfl⟩ ?_)
      refine (Hy.out w1 hc1).mono ?_
      rintro e w2 ⟨rfl, hc2⟩
      rw [Hy1.out]
      go_wp2_with (with_reducible first | refine stop_append ?_ | refine stop_copy ?_ | refine stop_make ?_ | refine stop_lookup ?_ | refine stop_update ?_ | refine stop_slice ?_ | refine stop_range ?_ | refine stop_next ?_ | refine stop_convert ⟨_, rfl⟩ ?_ | refine stop_convertB ⟨_, _, _, rfl⟩ ?_ | refine stop_eqSlice ⟨_, _, rfl⟩ ?_)
      go_ret
      rw [Hr.out]
      exact ⟨rfl, hc1.trans hc2⟩
  · have hx : vright xs = false := by simpa using hx
    have Hr := Lib.hid (show kindB xs ys = false by simp [kindB, hx])
    have Hx1 := Lib.hid hx
    clear hx
    go_enter Try.func116, Try.ntmps116
    go_wp2_with (with_reducible first | refine stop_append ?_ | refine stop_copy ?_ | refine stop_make ?_ | refine stop_lookup ?_ | refine stop_update ?_ | refine stop_slice ?_ | refine stop_range ?_ | refine stop_next ?_ | refine stop_convert ⟨_, rfl⟩ ?_ | refine stop_convertB ⟨_, _, _, rfl⟩ ?_ | refine stop_eqSlice ⟨_, _, rfl⟩ ?_)
    refine (Hx.out w (Chg.refl _ _)).mono ?_
    rintro e w1 ⟨rfl, hc1⟩
    rw [Hx1.out]
    go_wp2_with (with_reducible first | refine stop_append ?_ | refine stop_copy ?_ | refine stop_make ?_ | refine stop_lookup ?_ | refine stop_update ?_ | refine stop_slice ?_ | refine stop_range ?_ | refine stop_next ?_ | refine stop_convert ⟨_, rfl⟩ ?_ | refine stop_convertB ⟨_, _, _, rfl⟩ ?_ | refine stop_eqSlice ⟨_, _, rfl⟩ ?_)
    go_ret
    rw [Hr.out]
    exact ⟨rfl, hc1⟩
theorem vinfo_int : Info Try.prog 3 (.int .i64 0) 1 8 := by unfold Info; kernel_rfl
def PairPost (r : Option (List Int)) (w : World) (e : Ending) (w' : World) : Prop :=
  Chg No w w' ∧ ((∃ z, r = some z ∧ ∃ v, e = .returned (.tuple #[v, .bool true]) ∧ Sl (Lt w.heap.size) w' v z) ∨ (r = none ∧ e = .returned (.tuple #[.slice none 0 0, .bool false])))
def bothF (f : Int → Int → Int) (xs ys : List Int) : Option (List Int) := if kindB xs ys = true then some (List.zipWith f xs ys) else none
set_option maxRecDepth 100000 in
set_option maxHeartbeats 1000000 in
theorem both_any (F G : Nat → Prop) (v u : Value) (xs ys : List Int) (f : Int → Int → Int) (g : FuncId) (hg : ∀ args W, (callFunc g args).run Try.prog W = .ok (.enter g args) W) (w : World) (hs : Sl F w v xs) (ht : Sl G w u ys) (hl : xs.length * 8 ≤ 140737488355328) (hl' : ys.length * 8 ≤ 140737488355328)
    (hp : ∀ x y W, x ∈ xs → y ∈ ys → kindB xs ys = true → Calls Try.prog g #[.int .i64 x, .int .i64 y] W fun e w' => e = .returned (.int .i64 (f x y)) ∧ Chg No W w') :
    Calls Try.prog 109 #[v, u, .func (.func g) #[] #[]] w (PairPost (bothF f xs ys) w) := by
  obtain ⟨A, c, rfl, hc, _⟩ := id hs
  obtain ⟨B, d, rfl, hd, _⟩ := id ht
  have Hk := Lib.hid (vkind_any F G _ _ xs ys w hs ht hl hl')
  have Hs := Lib.hid hs
  have Ht := Lib.hid ht
  have Hp := Lib.hid hp
  clear hs ht hp
  by_cases hk : kindB xs ys = true
  · have Hr := Lib.hid (show bothF f xs ys = some (List.zipWith f xs ys) by simp [bothF, hk])
    have Hk1 := Lib.hid hk
    obtain ⟨⟨hx, hy⟩, he⟩ : (vright xs = true ∧ vright ys = true) ∧ xs.length = ys.length := by simpa [kindB] using hk
    have h8 := (vright_iff.1 hx).2.1
    clear hk hx hy
    have He := Lib.hid he
    rw [← he] at Ht Hk ⊢
    clear he hl hl' hd
    go_enter Try.func109, Try.ntmps109
    go_wp2_with (with_reducible first | refine stop_append ?_ | refine stop_copy ?_ | refine stop_make ?_ | refine stop_lookup ?_ | refine stop_update ?_ | refine stop_slice ?_ | refine stop_range ?_ | refine stop_next ?_ | refine stop_convert ⟨_, rfl⟩ ?_ | refine stop_convertB ⟨_, _, _, rfl⟩ ?_ | refine stop_eqSlice ⟨_, _, rfl⟩ ?_)
    refine Hk.out.mono ?_
    rintro e w1 ⟨rfl, hc1⟩
    rw [Hk1.out]
    have Hc1 := Lib.hid hc1
    go_wp2_with (with_reducible first | refine stop_append ?_ | refine stop_copy ?_ | refine stop_make ?_ | refine stop_lookup ?_ | refine stop_update ?_ | refine stop_slice ?_ | refine stop_range ?_ | refine stop_next ?_ | refine stop_convert ⟨_, rfl⟩ ?_ | refine stop_convertB ⟨_, _, _, rfl⟩ ?_ | refine stop_eqSlice ⟨_, _, rfl⟩ ?_)
    go_loopw [8, 9, 16] (fun v8 _ v16 wr => ∃ k : Nat, k ≤ xs.length ∧ v16 = .int .i64 k ∧ Chg No w wr ∧ Own No wr w.heap.size 3 v8 (List.zipWith f (xs.take k) (ys.take k))) (fun _ _ v16 _ => xs.length - (intOf v16).toNat)
    case atStart => exact ⟨0, by omega, rfl, hc1, Own.nil _ _ _ _⟩
    case round =>
      obtain ⟨k, hk, rfl, hc2, hown⟩ := hrel
      by_cases hlt : k < xs.length
      · have hlt' : k < ys.length := by have := He.out; omega
        obtain ⟨b, o, dd, rfl, _, hbl, rfl, ha⟩ := Hs.out.get k hlt
        have ha0 := ha 0 _ rfl
        have hgy : Sl G w (.slice B xs.length d) ys := Ht.out
        obtain ⟨b', o', dd', rfl, _, hbl', rfl, hb⟩ := hgy.get k hlt'
        have hb0 := hb 0 _ rfl
        simp only [show Rep.n Int = 1 from rfl, Nat.mul_one, Nat.add_zero] at ha0 hb0
        have hz : List.zipWith f (xs.take (k + 1)) (ys.take (k + 1)) = List.zipWith f (xs.take k) (ys.take k) ++ [f xs[k] ys[k]] := by
          rw [List.take_succ_eq_append_getElem hlt, List.take_succ_eq_append_getElem hlt', List.zipWith_append (by simp; omega)]; rfl
        have hlen : (List.zipWith f (xs.take k) (ys.take k)).length = k := by simp; omega
        have Hcall := Lib.hid (fun W => Hp.out xs[k] ys[k] W (List.getElem_mem hlt) (List.getElem_mem hlt') Hk1.out)
        clear ha hb hgy
        generalize xs[k] = x at ha0 hz Hcall
        generalize ys[k] = y at hb0 hz Hcall
        generalize List.zipWith f (xs.take k) (ys.take k) = acc at hz hlen hown
        have Hz := Lib.hid hz
        have Hlen := Lib.hid hlen
        clear hz hlen
        obtain ⟨A8, c8, rfl⟩ := hown.slice
        have hx1 := hc2.cell ha0 (not_no _)
        have hy1 := hc2.cell hb0 (not_no _)
        clear ha0 hb0
        have hxb : ¬ OB (.slice A8 acc.length c8) b := fun h => by have := (hown.lt _ h).1; omega
        have hyb : ¬ OB (.slice A8 acc.length c8) b' := fun h => by have := (hown.lt _ h).1; omega
        go_wp2_with (with_reducible first | refine stop_append ?_ | refine stop_copy ?_ | refine stop_make ?_ | refine stop_lookup ?_ | refine stop_update ?_ | refine stop_slice ?_ | refine stop_range ?_ | refine stop_next ?_ | refine stop_convert ⟨_, rfl⟩ ?_ | refine stop_convertB ⟨_, _, _, rfl⟩ ?_ | refine stop_eqSlice ⟨_, _, rfl⟩ ?_)
        refine rt_start (fun W => W.cell? ⟨b, o + k, none⟩ = some (.int .i64 x) ∧ W.cell? ⟨b', o' + k, none⟩ = some (.int .i64 y)) (by kernel_rfl) ?_
        iterate 10 ((refine rt_nx [] (v := ?_) rfl (by kernel_rfl) (fun _ _ _ h => h) rfl ?_ ?_; rotate_left; focus (intro W hW; (try dsimp only at hW); go_split_ands; go_simp; (try (simp (disch := omega) only [IntWalk.i64_in]; (try go_simp))); (try (split; (next => omega); (try go_simp))); try rfl; done)); try simp only [Act.put, List.setIfInBounds_toArray, List.set_cons_zero, List.set_cons_succ, Nat.reduceAdd])
        have s0 : (fun W => W.cell? ⟨b, o + k, none⟩ = some (.int .i64 x) ∧ W.cell? ⟨b', o' + k, none⟩ = some (.int .i64 y)) wr.drew := ⟨hx1, hy1⟩
        refine rt_kx (fun W => W.cell? ⟨b, o + k, none⟩ = some (.int .i64 x) ∧ W.cell? ⟨b', o' + k, none⟩ = some (.int .i64 y)) 10 (by kernel_rfl) s0 (fun _ h => h) rfl (by rfl) (fun K hK => ?_)
        go_simp
        refine (Hcall.out _).mono ?_
        rintro e w3 ⟨rfl, hc3⟩
        have hc3 : Chg No wr w3 := (Chg.refl No wr).drew.trans hc3
        have s3 : (fun W => W.cell? ⟨b, o + k, none⟩ = some (.int .i64 x) ∧ W.cell? ⟨b', o' + k, none⟩ = some (.int .i64 y)) w3 := ⟨hc3.cell hx1 (not_no _), hc3.cell hy1 (not_no _)⟩
        refine hK _ _ ?_
        clear hK K
        try simp only [Act.put, List.setIfInBounds_toArray, List.set_cons_zero, List.set_cons_succ]
        refine rt_kx (fun W => W.cell? ⟨b, o + k, none⟩ = some (.int .i64 x) ∧ W.cell? ⟨b', o' + k, none⟩ = some (.int .i64 y)) 11 (by kernel_rfl) s3 (fun _ h => h) rfl (by rfl) (fun K hK => ?_)
        go_simp
        refine hK _ _ ?_
        clear hK K
        try simp only [Act.put, List.setIfInBounds_toArray, List.set_cons_zero, List.set_cons_succ]
        have hc4 : Chg No wr (w3.alloc (.cells #[.int .i64 (f x y)] 3)) := hc3.alloc _
        have s4 : (fun W => W.cell? ⟨b, o + k, none⟩ = some (.int .i64 x) ∧ W.cell? ⟨b', o' + k, none⟩ = some (.int .i64 y)) (w3.alloc (.cells #[.int .i64 (f x y)] 3)) := ⟨hc4.cell hx1 (not_no _), hc4.cell hy1 (not_no _)⟩
        have hown4 := hown.keep (F := No) hc4 (fun _ _ h => h) (fun _ _ h => h)
        refine rt_append_flat (α := Int) (fun W => W.cell? ⟨b, o + k, none⟩ = some (.int .i64 x) ∧ W.cell? ⟨b', o' + k, none⟩ = some (.int .i64 y)) (i := 12) (by kernel_rfl) s4 (fun _ h => h) rfl rfl Try.underlying46 vinfo_int rfl hown4 rfl rfl (Sl.lit1 (F := No) (y := f x y) rfl rfl (not_no _)) (by have := Hlen.out; simp; omega) (by have := Hlen.out; simp; omega) (by have := hc2.size; have := hc3.size; simp; omega) ?_
        intro v5 w5 hown5 hg5
        have hc5 : Chg (OB (.slice A8 acc.length c8)) wr w5 := hc4.of_no.trans hg5.chg
        have hcw : Chg No w w5 := hc2.old hc5 (fun k h => (hown.lt _ h).1)
        have s5 : (fun W => W.cell? ⟨b, o + k, none⟩ = some (.int .i64 x) ∧ W.cell? ⟨b', o' + k, none⟩ = some (.int .i64 y)) w5 := ⟨hc5.cell hx1 hxb, hc5.cell hy1 hyb⟩
        try simp only [Act.put, List.setIfInBounds_toArray, List.set_cons_zero, List.set_cons_succ, Nat.reduceAdd]
        refine rt_kx (fun W => W.cell? ⟨b, o + k, none⟩ = some (.int .i64 x) ∧ W.cell? ⟨b', o' + k, none⟩ = some (.int .i64 y)) 13 (by kernel_rfl) s5 (fun _ h => h) rfl (by rfl) (fun K hK => ?_)
        go_simp
        refine hK _ _ ?_
        clear hK K
        try simp only [Act.put, List.setIfInBounds_toArray, List.set_cons_zero, List.set_cons_succ]
        refine rt_done (by kernel_rfl)  ?_
        go_wp2_with (with_reducible first | refine stop_append ?_ | refine stop_copy ?_ | refine stop_make ?_ | refine stop_lookup ?_ | refine stop_update ?_ | refine stop_slice ?_ | refine stop_range ?_ | refine stop_next ?_ | refine stop_convert ⟨_, rfl⟩ ?_ | refine stop_convertB ⟨_, _, _, rfl⟩ ?_ | refine stop_eqSlice ⟨_, _, rfl⟩ ?_)
        go_roundw
        case rel => exact ⟨k + 1, by omega, by go_num, hcw, by rw [Hz.out]; exact hown5⟩
        case measure => simp [intOf]; omega
      · obtain rfl : k = xs.length := by omega
        rw [List.take_length, show ys.take xs.length = ys by rw [He.out, List.take_length]] at hown
        have Hown := Lib.hid hown
        obtain ⟨A', c', hv8⟩ := hown.slice
        subst hv8
        clear hown
        have Hc2 := Lib.hid hc2
        go_wp2_with (with_reducible first | refine stop_append ?_ | refine stop_copy ?_ | refine stop_make ?_ | refine stop_lookup ?_ | refine stop_update ?_ | refine stop_slice ?_ | refine stop_range ?_ | refine stop_next ?_ | refine stop_convert ⟨_, rfl⟩ ?_ | refine stop_convertB ⟨_, _, _, rfl⟩ ?_ | refine stop_eqSlice ⟨_, _, rfl⟩ ?_)
        go_ret2
        rw [Hr.out]
        exact ⟨Hc2.out, .inl ⟨_, rfl, _, rfl, Hown.out.slFlat (fun k hk f => by have := (Hown.out.lt k hk).1; simp only [Lt] at f; omega)⟩⟩
  · have hk : kindB xs ys = false := by simpa using hk
    have Hr := Lib.hid (show bothF f xs ys = none by simp [bothF, hk])
    have Hk1 := Lib.hid hk
    clear hk
    go_enter Try.func109, Try.ntmps109
    go_wp2_with (with_reducible first | refine stop_append ?_ | refine stop_copy ?_ | refine stop_make ?_ | refine stop_lookup ?_ | refine stop_update ?_ | refine stop_slice ?_ | refine stop_range ?_ | refine stop_next ?_ | refine stop_convert ⟨_, rfl⟩ ?_ | refine stop_convertB ⟨_, _, _, rfl⟩ ?_ | refine stop_eqSlice ⟨_, _, rfl⟩ ?_)
    refine Hk.out.mono ?_
    rintro e w1 ⟨rfl, hc1⟩
    rw [Hk1.out]
    go_wp2_with (with_reducible first | refine stop_append ?_ | refine stop_copy ?_ | refine stop_make ?_ | refine stop_lookup ?_ | refine stop_update ?_ | refine stop_slice ?_ | refine stop_range ?_ | refine stop_next ?_ | refine stop_convert ⟨_, rfl⟩ ?_ | refine stop_convertB ⟨_, _, _, rfl⟩ ?_ | refine stop_eqSlice ⟨_, _, rfl⟩ ?_)
    go_ret2
    rw [Hr.out]
    exact ⟨hc1, .inr ⟨rfl, rfl⟩⟩
theorem vmax1_any (x y : Int) (w : World) : Calls Try.prog 110 #[.int .i64 x, .int .i64 y] w fun e w' => e = .returned (.int .i64 (max x y)) ∧ Chg No w w' := by
  by_cases h : x < y
  · have H := Lib.hid (show max x y = y by omega)
    go_enter Try.func110, Try.ntmps110
    go_wp2_with (with_reducible first | refine stop_append ?_ | refine stop_copy ?_ | refine stop_make ?_ | refine stop_lookup ?_ | refine stop_update ?_ | refine stop_slice ?_ | refine stop_range ?_ | refine stop_next ?_ | refine stop_convert ⟨_, rfl⟩ ?_ | refine stop_convertB ⟨_, _, _, rfl⟩ ?_ | refine stop_eqSlice ⟨_, _, rfl⟩ ?_)
    go_ret
    rw [H.out]; exact ⟨rfl, Chg.refl _ _⟩
  · have H := Lib.hid (show max x y = x by omega)
    go_enter Try.func110, Try.ntmps110
    go_wp2_with (with_reducible first | refine stop_append ?_ | refine stop_copy ?_ | refine stop_make ?_ | refine stop_lookup ?_ | refine stop_update ?_ | refine stop_slice ?_ | refine stop_range ?_ | refine stop_next ?_ | refine stop_convert ⟨_, rfl⟩ ?_ | refine stop_convertB ⟨_, _, _, rfl⟩ ?_ | refine stop_eqSlice ⟨_, _, rfl⟩ ?_)
    go_ret
    rw [H.out]; exact ⟨rfl, Chg.refl _ _⟩
theorem vmax_any (F G : Nat → Prop) (v u : Value) (xs ys : List Int) (w : World) (hs : Sl F w v xs) (ht : Sl G w u ys) (hl : xs.length * 8 ≤ 140737488355328) (hl' : ys.length * 8 ≤ 140737488355328) :
    Calls Try.prog 94 #[v, u] w (PairPost (bothF max xs ys) w) := by
  have H := Lib.hid (both_any F G v u xs ys max 110 (fun args W => by kernel_rfl) w hs ht hl hl' (fun x y W _ _ _ => vmax1_any x y W))
  obtain ⟨A, c, rfl, hc, _⟩ := id hs
  obtain ⟨B, d, rfl, hd, _⟩ := id ht
  generalize bothF max xs ys = r at H ⊢
  clear hs ht
  go_enter Try.func94, Try.ntmps94
  go_wp2_with (with_reducible first | refine stop_append ?_ | refine stop_copy ?_ | refine stop_make ?_ | refine stop_lookup ?_ | refine stop_update ?_ | refine stop_slice ?_ | refine stop_range ?_ | refine stop_next ?_ | refine stop_convert ⟨_, rfl⟩ ?_ | refine stop_convertB ⟨_, _, _, rfl⟩ ?_ | refine stop_eqSlice ⟨_, _, rfl⟩ ?_)
  refine H.out.mono ?_
  rintro e w1 ⟨hc1, ⟨z, rfl, v', rfl, hz⟩ | ⟨rfl, rfl⟩⟩
  · obtain ⟨A', c', rfl⟩ := hz.slice
    have Hz := Lib.hid hz
    clear hz
    go_wp2_with (with_reducible first | refine stop_append ?_ | refine stop_copy ?_ | refine stop_make ?_ | refine stop_lookup ?_ | refine stop_update ?_ | refine stop_slice ?_ | refine stop_range ?_ | refine stop_next ?_ | refine stop_convert ⟨_, rfl⟩ ?_ | refine stop_convertB ⟨_, _, _, rfl⟩ ?_ | refine stop_eqSlice ⟨_, _, rfl⟩ ?_)
    go_ret2
    exact ⟨hc1, .inl ⟨_, rfl, _, rfl, Hz.out⟩⟩
  · go_wp2_with (with_reducible first | refine stop_append ?_ | refine stop_copy ?_ | refine stop_make ?_ | refine stop_lookup ?_ | refine stop_update ?_ | refine stop_slice ?_ | refine stop_range ?_ | refine stop_next ?_ | refine stop_convert ⟨_, rfl⟩ ?_ | refine stop_convertB ⟨_, _, _, rfl⟩ ?_ | refine stop_eqSlice ⟨_, _, rfl⟩ ?_)
    go_ret2
    exact ⟨hc1, .inr ⟨rfl, rfl⟩⟩
set_option maxRecDepth 100000 in
set_option maxHeartbeats 1000000 in
theorem vequal_any (F G : Nat → Prop) (v u : Value) (xs ys : List Int) (w : World) (h : Sl F w v xs) (h' : Sl G w u ys) (hl : xs.length ≤ 1000000) (hl' : ys.length ≤ 17592186044416) :
    Calls Try.prog 82 #[v, u] w fun e w' => e = .returned (.bool (decide (xs = ys))) ∧ Chg No w w' := by
  obtain ⟨A, c, rfl⟩ := h.slice
  obtain ⟨B, d, rfl⟩ := h'.slice
  have H := Lib.hid h; have H' := Lib.hid h'
  clear h h'
  by_cases hlen : xs.length = ys.length
  · go_enter Try.func82, Try.ntmps82
    have hne : ¬ (xs.length : Int) ≠ ys.length := by omega
    have Hlen := Lib.hid hlen
    rw [← hlen] at H' hl' ⊢
    clear hlen hne
    go_wp2_with (with_reducible first | refine stop_append ?_ | refine stop_copy ?_ | refine stop_make ?_ | refine stop_lookup ?_ | refine stop_update ?_ | refine stop_slice ?_ | refine stop_range ?_ | refine stop_next ?_ | refine stop_convert ⟨_, rfl⟩ ?_ | refine stop_convertB ⟨_, _, _, rfl⟩ ?_ | refine stop_eqSlice ⟨_, _, rfl⟩ ?_)
    go_loopw [5, 13] (fun v5 v13 wr => ∃ k : Nat, k ≤ xs.length ∧ v13 = .int .i64 k ∧ Chg No w wr ∧ xs.take k = ys.take k) (fun _ v13 _ => xs.length - (intOf v13).toNat)
    case atStart => exact ⟨0, by omega, rfl, Chg.refl _ _, rfl⟩
    case round =>
      obtain ⟨k, hk, rfl, hc, he⟩ := hrel
      have He := Lib.hid he; clear he
      by_cases hlt : k < xs.length
      · have hlt' : k < ys.length := by have := Hlen.out; omega
        obtain ⟨b, o, dd, rfl, _, hbl, rfl, ha⟩ := (H.out.keepNo hc).get k hlt
        have ha0 := ha 0 _ rfl
        have hgy : Sl G w (.slice B xs.length d) ys := H'.out
        obtain ⟨b', o', dd', rfl, _, hbl', rfl, hb⟩ := (hgy.keepNo hc).get k hlt'
        have hb0 := hb 0 _ rfl
        simp only [show Rep.n Int = 1 from rfl, Nat.mul_one, Nat.add_zero] at ha0 hb0
        have hsx : xs.take (k + 1) = xs.take k ++ [xs[k]] := List.take_succ_eq_append_getElem hlt
        have hsy : ys.take (k + 1) = ys.take k ++ [ys[k]] := List.take_succ_eq_append_getElem hlt'
        have hxy : xs[k] ≠ ys[k] → xs ≠ ys := fun h e => h (by subst e; rfl)
        clear ha hb hgy
        generalize xs[k] = x at ha0 hsx hxy
        generalize ys[k] = y at hb0 hsy hxy
        have Hsx := Lib.hid hsx; have Hsy := Lib.hid hsy; have Hxy := Lib.hid hxy
        clear hsx hsy hxy
        by_cases hq : x = y
        · subst hq
          go_wp2_with (with_reducible first | refine stop_append ?_ | refine stop_copy ?_ | refine stop_make ?_ | refine stop_lookup ?_ | refine stop_update ?_ | refine stop_slice ?_ | refine stop_range ?_ | refine stop_next ?_ | refine stop_convert ⟨_, rfl⟩ ?_ | refine stop_convertB ⟨_, _, _, rfl⟩ ?_ | refine stop_eqSlice ⟨_, _, rfl⟩ ?_)
          refine reg_start (fun W => W.cell? ⟨b, o + k, none⟩ = some (.int .i64 x) ∧ W.cell? ⟨b', o' + k, none⟩ = some (.int .i64 x)) (by kernel_rfl) ?_
          ((refine reg_yes (i := 0) (oi := { dst := some 16, op := .move (.tmp 0), type := 46, pos := "slices.go:25", after := #[], guard := none }) (v := ?_) rfl (by kernel_rfl) (by kernel_rfl) (by kernel_rfl) (fun _ _ _ h => h) rfl ?_ ?_); rotate_left; focus (intro W hW; (try dsimp only at hW); go_split_ands; go_simp; (try (simp (disch := omega) only [IntWalk.i64_in]; (try go_simp))); (try (split; (next => omega); (try go_simp))); try rfl; done))
          try simp only [Act.put, List.setIfInBounds_toArray, List.set_cons_zero, List.set_cons_succ, Nat.reduceAdd]
          ((refine reg_yes (i := 1) (oi := { dst := some 17, op := .move (.tmp 5), type := 3, pos := "slices.go:25", after := #[], guard := none }) (v := ?_) rfl (by kernel_rfl) (by kernel_rfl) (by kernel_rfl) (fun _ _ _ h => h) rfl ?_ ?_); rotate_left; focus (intro W hW; (try dsimp only at hW); go_split_ands; go_simp; (try (simp (disch := omega) only [IntWalk.i64_in]; (try go_simp))); (try (split; (next => omega); (try go_simp))); try rfl; done))
          try simp only [Act.put, List.setIfInBounds_toArray, List.set_cons_zero, List.set_cons_succ, Nat.reduceAdd]
          ((refine reg_yes (i := 2) (oi := { dst := some 18, op := .indexAddr 46 (.tmp 16) (.tmp 17), type := 0, pos := "slices.go:25", after := #[{ on := 0, ground := .data }, { on := 1, ground := .data }], guard := none }) (v := ?_) rfl (by kernel_rfl) (by kernel_rfl) (by kernel_rfl) (fun _ _ _ h => h) rfl ?_ ?_); rotate_left; focus (intro W hW; (try dsimp only at hW); go_split_ands; go_simp; (try (simp (disch := omega) only [IntWalk.i64_in]; (try go_simp))); (try (split; (next => omega); (try go_simp))); try rfl; done))
          try simp only [Act.put, List.setIfInBounds_toArray, List.set_cons_zero, List.set_cons_succ, Nat.reduceAdd]
          ((refine reg_yes (i := 3) (oi := { dst := some 19, op := .load 3 (.tmp 18), type := 3, pos := "slices.go:25", after := #[{ on := 2, ground := .data }], guard := none }) (v := ?_) rfl (by kernel_rfl) (by kernel_rfl) (by kernel_rfl) (fun _ _ _ h => h) rfl ?_ ?_); rotate_left; focus (intro W hW; (try dsimp only at hW); go_split_ands; go_simp; (try (simp (disch := omega) only [IntWalk.i64_in]; (try go_simp))); (try (split; (next => omega); (try go_simp))); try rfl; done))
          try simp only [Act.put, List.setIfInBounds_toArray, List.set_cons_zero, List.set_cons_succ, Nat.reduceAdd]
          ((refine reg_yes (i := 4) (oi := { dst := some 20, op := .move (.tmp 1), type := 46, pos := "slices.go:25", after := #[], guard := none }) (v := ?_) rfl (by kernel_rfl) (by kernel_rfl) (by kernel_rfl) (fun _ _ _ h => h) rfl ?_ ?_); rotate_left; focus (intro W hW; (try dsimp only at hW); go_split_ands; go_simp; (try (simp (disch := omega) only [IntWalk.i64_in]; (try go_simp))); (try (split; (next => omega); (try go_simp))); try rfl; done))
          try simp only [Act.put, List.setIfInBounds_toArray, List.set_cons_zero, List.set_cons_succ, Nat.reduceAdd]
          ((refine reg_yes (i := 5) (oi := { dst := some 21, op := .move (.tmp 5), type := 3, pos := "slices.go:25", after := #[], guard := none }) (v := ?_) rfl (by kernel_rfl) (by kernel_rfl) (by kernel_rfl) (fun _ _ _ h => h) rfl ?_ ?_); rotate_left; focus (intro W hW; (try dsimp only at hW); go_split_ands; go_simp; (try (simp (disch := omega) only [IntWalk.i64_in]; (try go_simp))); (try (split; (next => omega); (try go_simp))); try rfl; done))
          try simp only [Act.put, List.setIfInBounds_toArray, List.set_cons_zero, List.set_cons_succ, Nat.reduceAdd]
          ((refine reg_yes (i := 6) (oi := { dst := some 22, op := .indexAddr 46 (.tmp 20) (.tmp 21), type := 0, pos := "slices.go:25", after := #[{ on := 4, ground := .data }, { on := 5, ground := .data }], guard := none }) (v := ?_) rfl (by kernel_rfl) (by kernel_rfl) (by kernel_rfl) (fun _ _ _ h => h) rfl ?_ ?_); rotate_left; focus (intro W hW; (try dsimp only at hW); go_split_ands; go_simp; (try (simp (disch := omega) only [IntWalk.i64_in]; (try go_simp))); (try (split; (next => omega); (try go_simp))); try rfl; done))
          try simp only [Act.put, List.setIfInBounds_toArray, List.set_cons_zero, List.set_cons_succ, Nat.reduceAdd]
          ((refine reg_yes (i := 7) (oi := { dst := some 23, op := .load 3 (.tmp 22), type := 3, pos := "slices.go:25", after := #[{ on := 6, ground := .data }], guard := none }) (v := ?_) rfl (by kernel_rfl) (by kernel_rfl) (by kernel_rfl) (fun _ _ _ h => h) rfl ?_ ?_); rotate_left; focus (intro W hW; (try dsimp only at hW); go_split_ands; go_simp; (try (simp (disch := omega) only [IntWalk.i64_in]; (try go_simp))); (try (split; (next => omega); (try go_simp))); try rfl; done))
          try simp only [Act.put, List.setIfInBounds_toArray, List.set_cons_zero, List.set_cons_succ, Nat.reduceAdd]
          ((refine reg_yes (i := 8) (oi := { dst := some 24, op := .binOp .neq 3 (.tmp 19) (.tmp 23) 3, type := 4, pos := "slices.go:25", after := #[{ on := 3, ground := .data }, { on := 7, ground := .data }], guard := none }) (v := ?_) rfl (by kernel_rfl) (by kernel_rfl) (by kernel_rfl) (fun _ _ _ h => h) rfl ?_ ?_); rotate_left; focus (intro W hW; (try dsimp only at hW); go_split_ands; go_simp; (try (simp (disch := omega) only [IntWalk.i64_in]; (try go_simp))); (try (split; (next => omega); (try go_simp))); try rfl; done))
          try simp only [Act.put, List.setIfInBounds_toArray, List.set_cons_zero, List.set_cons_succ, Nat.reduceAdd]
          refine reg_done (by kernel_rfl) (show (fun W => W.cell? ⟨b, o + k, none⟩ = some (.int .i64 x) ∧ W.cell? ⟨b', o' + k, none⟩ = some (.int .i64 x)) wr.drew from ⟨ha0, hb0⟩) ?_
          have hcd := hc.drew
          go_wp2_with (with_reducible first | refine stop_append ?_ | refine stop_copy ?_ | refine stop_make ?_ | refine stop_lookup ?_ | refine stop_update ?_ | refine stop_slice ?_ | refine stop_range ?_ | refine stop_next ?_ | refine stop_convert ⟨_, rfl⟩ ?_ | refine stop_convertB ⟨_, _, _, rfl⟩ ?_ | refine stop_eqSlice ⟨_, _, rfl⟩ ?_)
          go_roundw
          case rel => exact ⟨k + 1, by omega, by go_num, hcd, by rw [Hsx.out, Hsy.out, He.out]⟩
          case measure => simp [intOf]; omega
        · have hq1 : (x == y) = false := by simpa using hq
          have hq2 : (x != y) = true := by simpa using hq
          have Hq := Lib.hid hq
          clear hq
          go_wp2_with (with_reducible first | refine stop_append ?_ | refine stop_copy ?_ | refine stop_make ?_ | refine stop_lookup ?_ | refine stop_update ?_ | refine stop_slice ?_ | refine stop_range ?_ | refine stop_next ?_ | refine stop_convert ⟨_, rfl⟩ ?_ | refine stop_convertB ⟨_, _, _, rfl⟩ ?_ | refine stop_eqSlice ⟨_, _, rfl⟩ ?_)
          refine reg_start (fun W => W.cell? ⟨b, o + k, none⟩ = some (.int .i64 x) ∧ W.cell? ⟨b', o' + k, none⟩ = some (.int .i64 y)) (by kernel_rfl) ?_
          ((refine reg_yes (i := 0) (oi := { dst := some 16, op := .move (.tmp 0), type := 46, pos := "slices.go:25", after := #[], guard := none }) (v := ?_) rfl (by kernel_rfl) (by kernel_rfl) (by kernel_rfl) (fun _ _ _ h => h) rfl ?_ ?_); rotate_left; focus (intro W hW; (try dsimp only at hW); go_split_ands; go_simp; (try (simp (disch := omega) only [IntWalk.i64_in]; (try go_simp))); (try (split; (next => omega); (try go_simp))); try rfl; done))
          try simp only [Act.put, List.setIfInBounds_toArray, List.set_cons_zero, List.set_cons_succ, Nat.reduceAdd]
          ((refine reg_yes (i := 1) (oi := { dst := some 17, op := .move (.tmp 5), type := 3, pos := "slices.go:25", after := #[], guard := none }) (v := ?_) rfl (by kernel_rfl) (by kernel_rfl) (by kernel_rfl) (fun _ _ _ h => h) rfl ?_ ?_); rotate_left; focus (intro W hW; (try dsimp only at hW); go_split_ands; go_simp; (try (simp (disch := omega) only [IntWalk.i64_in]; (try go_simp))); (try (split; (next => omega); (try go_simp))); try rfl; done))
          try simp only [Act.put, List.setIfInBounds_toArray, List.set_cons_zero, List.set_cons_succ, Nat.reduceAdd]
          ((refine reg_yes (i := 2) (oi := { dst := some 18, op := .indexAddr 46 (.tmp 16) (.tmp 17), type := 0, pos := "slices.go:25", after := #[{ on := 0, ground := .data }, { on := 1, ground := .data }], guard := none }) (v := ?_) rfl (by kernel_rfl) (by kernel_rfl) (by kernel_rfl) (fun _ _ _ h => h) rfl ?_ ?_); rotate_left; focus (intro W hW; (try dsimp only at hW); go_split_ands; go_simp; (try (simp (disch := omega) only [IntWalk.i64_in]; (try go_simp))); (try (split; (next => omega); (try go_simp))); try rfl; done))
          try simp only [Act.put, List.setIfInBounds_toArray, List.set_cons_zero, List.set_cons_succ, Nat.reduceAdd]
          ((refine reg_yes (i := 3) (oi := { dst := some 19, op := .load 3 (.tmp 18), type := 3, pos := "slices.go:25", after := #[{ on := 2, ground := .data }], guard := none }) (v := ?_) rfl (by kernel_rfl) (by kernel_rfl) (by kernel_rfl) (fun _ _ _ h => h) rfl ?_ ?_); rotate_left; focus (intro W hW; (try dsimp only at hW); go_split_ands; go_simp; (try (simp (disch := omega) only [IntWalk.i64_in]; (try go_simp))); (try (split; (next => omega); (try go_simp))); try rfl; done))
          try simp only [Act.put, List.setIfInBounds_toArray, List.set_cons_zero, List.set_cons_succ, Nat.reduceAdd]
          ((refine reg_yes (i := 4) (oi := { dst := some 20, op := .move (.tmp 1), type := 46, pos := "slices.go:25", after := #[], guard := none }) (v := ?_) rfl (by kernel_rfl) (by kernel_rfl) (by kernel_rfl) (fun _ _ _ h => h) rfl ?_ ?_); rotate_left; focus (intro W hW; (try dsimp only at hW); go_split_ands; go_simp; (try (simp (disch := omega) only [IntWalk.i64_in]; (try go_simp))); (try (split; (next => omega); (try go_simp))); try rfl; done))
          try simp only [Act.put, List.setIfInBounds_toArray, List.set_cons_zero, List.set_cons_succ, Nat.reduceAdd]
          ((refine reg_yes (i := 5) (oi := { dst := some 21, op := .move (.tmp 5), type := 3, pos := "slices.go:25", after := #[], guard := none }) (v := ?_) rfl (by kernel_rfl) (by kernel_rfl) (by kernel_rfl) (fun _ _ _ h => h) rfl ?_ ?_); rotate_left; focus (intro W hW; (try dsimp only at hW); go_split_ands; go_simp; (try (simp (disch := omega) only [IntWalk.i64_in]; (try go_simp))); (try (split; (next => omega); (try go_simp))); try rfl; done))
          try simp only [Act.put, List.setIfInBounds_toArray, List.set_cons_zero, List.set_cons_succ, Nat.reduceAdd]
          ((refine reg_yes (i := 6) (oi := { dst := some 22, op := .indexAddr 46 (.tmp 20) (.tmp 21), type := 0, pos := "slices.go:25", after := #[{ on := 4, ground := .data }, { on := 5, ground := .data }], guard := none }) (v := ?_) rfl (by kernel_rfl) (by kernel_rfl) (by kernel_rfl) (fun _ _ _ h => h) rfl ?_ ?_); rotate_left; focus (intro W hW; (try dsimp only at hW); go_split_ands; go_simp; (try (simp (disch := omega) only [IntWalk.i64_in]; (try go_simp))); (try (split; (next => omega); (try go_simp))); try rfl; done))
          try simp only [Act.put, List.setIfInBounds_toArray, List.set_cons_zero, List.set_cons_succ, Nat.reduceAdd]
          ((refine reg_yes (i := 7) (oi := { dst := some 23, op := .load 3 (.tmp 22), type := 3, pos := "slices.go:25", after := #[{ on := 6, ground := .data }], guard := none }) (v := ?_) rfl (by kernel_rfl) (by kernel_rfl) (by kernel_rfl) (fun _ _ _ h => h) rfl ?_ ?_); rotate_left; focus (intro W hW; (try dsimp only at hW); go_split_ands; go_simp; (try (simp (disch := omega) only [IntWalk.i64_in]; (try go_simp))); (try (split; (next => omega); (try go_simp))); try rfl; done))
          try simp only [Act.put, List.setIfInBounds_toArray, List.set_cons_zero, List.set_cons_succ, Nat.reduceAdd]
          ((refine reg_yes (i := 8) (oi := { dst := some 24, op := .binOp .neq 3 (.tmp 19) (.tmp 23) 3, type := 4, pos := "slices.go:25", after := #[{ on := 3, ground := .data }, { on := 7, ground := .data }], guard := none }) (v := ?_) rfl (by kernel_rfl) (by kernel_rfl) (by kernel_rfl) (fun _ _ _ h => h) rfl ?_ ?_); rotate_left; focus (intro W hW; (try dsimp only at hW); go_split_ands; go_simp; (try (simp (disch := omega) only [IntWalk.i64_in]; (try go_simp))); (try (split; (next => omega); (try go_simp))); try rfl; done))
          try simp only [Act.put, List.setIfInBounds_toArray, List.set_cons_zero, List.set_cons_succ, Nat.reduceAdd]
          refine reg_done (by kernel_rfl) (show (fun W => W.cell? ⟨b, o + k, none⟩ = some (.int .i64 x) ∧ W.cell? ⟨b', o' + k, none⟩ = some (.int .i64 y)) wr.drew from ⟨ha0, hb0⟩) ?_
          have hcd := hc.drew
          go_wp2_with (with_reducible first | refine stop_append ?_ | refine stop_copy ?_ | refine stop_make ?_ | refine stop_lookup ?_ | refine stop_update ?_ | refine stop_slice ?_ | refine stop_range ?_ | refine stop_next ?_ | refine stop_convert ⟨_, rfl⟩ ?_ | refine stop_convertB ⟨_, _, _, rfl⟩ ?_ | refine stop_eqSlice ⟨_, _, rfl⟩ ?_)
          go_ret
          exact ⟨by simp [Hxy.out Hq.out], hcd⟩
      · obtain rfl : k = xs.length := by omega
        have he := He.out
        rw [List.take_length, Hlen.out, List.take_length] at he
        have Heq := Lib.hid he
        clear he He
        go_wp2_with (with_reducible first | refine stop_append ?_ | refine stop_copy ?_ | refine stop_make ?_ | refine stop_lookup ?_ | refine stop_update ?_ | refine stop_slice ?_ | refine stop_range ?_ | refine stop_next ?_ | refine stop_convert ⟨_, rfl⟩ ?_ | refine stop_convertB ⟨_, _, _, rfl⟩ ?_ | refine stop_eqSlice ⟨_, _, rfl⟩ ?_)
        go_ret
        exact ⟨by simp [Heq.out], hc⟩
  · have hne : ((xs.length : Int) != ys.length) = true := by simp; omega
    have hne2 : ((xs.length : Int) == ys.length) = false := by simp; omega
    have Hn := Lib.hid (show xs ≠ ys from fun e => hlen (by rw [e]))
    clear hlen
    go_enter Try.func82, Try.ntmps82
    go_wp2_with (with_reducible first | refine stop_append ?_ | refine stop_copy ?_ | refine stop_make ?_ | refine stop_lookup ?_ | refine stop_update ?_ | refine stop_slice ?_ | refine stop_range ?_ | refine stop_next ?_ | refine stop_convert ⟨_, rfl⟩ ?_ | refine stop_convertB ⟨_, _, _, rfl⟩ ?_ | refine stop_eqSlice ⟨_, _, rfl⟩ ?_)
    go_ret
    exact ⟨by simp [Hn.out], Chg.refl _ _⟩
theorem vcovers_any (F G : Nat → Prop) (v u : Value) (xs ys : List Int) (w : World) (hs : Sl F w v xs) (ht : Sl G w u ys) (hl : xs.length * 8 ≤ 140737488355328) (hl' : ys.length * 8 ≤ 140737488355328) :
    Calls Try.prog 63 #[v, u] w fun e w' => e = .returned (.bool (coversB xs ys)) ∧ Chg No w w' := by
  have H := Lib.hid (vmax_any F G v u xs ys w hs ht hl hl')
  have Hs := Lib.hid hs
  obtain ⟨A, c, rfl, hc, _⟩ := id hs
  obtain ⟨B, d, rfl, hd, _⟩ := id ht
  clear hs ht
  by_cases hk : kindB xs ys = true
  · have Hk := Lib.hid (show coversB xs ys = decide (List.zipWith max xs ys = xs) by simp [coversB, hk])
    obtain ⟨⟨hx, _⟩, he⟩ : (vright xs = true ∧ vright ys = true) ∧ xs.length = ys.length := by simpa [kindB] using hk
    have h8 := (vright_iff.1 hx).2.1
    have hb : bothF max xs ys = some (List.zipWith max xs ys) := by simp [bothF, hk]
    have hzl : (List.zipWith max xs ys).length ≤ 8 := by simp; omega
    rw [hb] at H
    clear hk hx he hb
    generalize List.zipWith max xs ys = z at H Hk hzl
    go_enter Try.func63, Try.ntmps63
    go_wp2_with (with_reducible first | refine stop_append ?_ | refine stop_copy ?_ | refine stop_make ?_ | refine stop_lookup ?_ | refine stop_update ?_ | refine stop_slice ?_ | refine stop_range ?_ | refine stop_next ?_ | refine stop_convert ⟨_, rfl⟩ ?_ | refine stop_convertB ⟨_, _, _, rfl⟩ ?_ | refine stop_eqSlice ⟨_, _, rfl⟩ ?_)
    refine H.out.mono ?_
    rintro e w1 ⟨hc1, ⟨z', hz', v', rfl, hz⟩ | ⟨h, _⟩⟩
    · obtain rfl : z = z' := by simpa using hz'
      have Hz := Lib.hid (vequal_any _ _ _ _ _ _ _ hz (Hs.out.keepNo hc1) (by omega) (by omega))
      obtain ⟨A', c', rfl⟩ := hz.slice
      clear hz hz'
      go_wp2_with (with_reducible first | refine stop_append ?_ | refine stop_copy ?_ | refine stop_make ?_ | refine stop_lookup ?_ | refine stop_update ?_ | refine stop_slice ?_ | refine stop_range ?_ | refine stop_next ?_ | refine stop_convert ⟨_, rfl⟩ ?_ | refine stop_convertB ⟨_, _, _, rfl⟩ ?_ | refine stop_eqSlice ⟨_, _, rfl⟩ ?_)
      refine Hz.out.mono ?_
      rintro e w2 ⟨rfl, hc2⟩
      go_wp2_with (with_reducible first | refine stop_append ?_ | refine stop_copy ?_ | refine stop_make ?_ | refine stop_lookup ?_ | refine stop_update ?_ | refine stop_slice ?_ | refine stop_range ?_ | refine stop_next ?_ | refine stop_convert ⟨_, rfl⟩ ?_ | refine stop_convertB ⟨_, _, _, rfl⟩ ?_ | refine stop_eqSlice ⟨_, _, rfl⟩ ?_)
      go_ret
      rw [Hk.out]
      exact ⟨rfl, hc1.trans hc2⟩
    · cases h
  · have hk : kindB xs ys = false := by simpa using hk
    have Hk := Lib.hid (show coversB xs ys = false by simp [coversB, hk])
    have hb : bothF max xs ys = none := by simp [bothF, hk]
    rw [hb] at H
    clear hk hb
    go_enter Try.func63, Try.ntmps63
    go_wp2_with (with_reducible first | refine stop_append ?_ | refine stop_copy ?_ | refine stop_make ?_ | refine stop_lookup ?_ | refine stop_update ?_ | refine stop_slice ?_ | refine stop_range ?_ | refine stop_next ?_ | refine stop_convert ⟨_, rfl⟩ ?_ | refine stop_convertB ⟨_, _, _, rfl⟩ ?_ | refine stop_eqSlice ⟨_, _, rfl⟩ ?_)
    refine H.out.mono ?_
    rintro e w1 ⟨hc1, ⟨z', hz', _⟩ | ⟨_, rfl⟩⟩
    · cases hz'
    · go_wp2_with (with_reducible first | refine stop_append ?_ | refine stop_copy ?_ | refine stop_make ?_ | refine stop_lookup ?_ | refine stop_update ?_ | refine stop_slice ?_ | refine stop_range ?_ | refine stop_next ?_ | refine stop_convert ⟨_, rfl⟩ ?_ | refine stop_convertB ⟨_, _, _, rfl⟩ ?_ | refine stop_eqSlice ⟨_, _, rfl⟩ ?_)
      go_ret
      rw [Hk.out]
      exact ⟨rfl, hc1⟩
theorem vtotal_any (F : Nat → Prop) (v : Value) (xs : List Int) (w : World) (hs : Sl F w v xs) (hl : xs.length * 8 ≤ 140737488355328) :
    Calls Try.prog 64 #[v] w fun e w' => e = .returned (.int .i64 (total xs)) ∧ Chg No w w' := by
  have H := Lib.hid (vright_any F v xs w hs hl)
  have Hs := Lib.hid hs
  obtain ⟨A, c, rfl, hc, _⟩ := id hs
  clear hs
  by_cases hk : vright xs = true
  · have Hk := Lib.hid (show total xs = xs.sum by simp [total, hk])
    have Hv := Lib.hid (vright_iff.1 hk)
    have Hk1 := Lib.hid hk
    have h8 := (vright_iff.1 hk).2.1
    clear hk
    go_enter Try.func64, Try.ntmps64
    go_wp2_with (with_reducible first | refine stop_append ?_ | refine stop_copy ?_ | refine stop_make ?_ | refine stop_lookup ?_ | refine stop_update ?_ | refine stop_slice ?_ | refine stop_range ?_ | refine stop_next ?_ | refine stop_convert ⟨_, rfl⟩ ?_ | refine stop_convertB ⟨_, _, _, rfl⟩ ?_ | refine stop_eqSlice ⟨_, _, rfl⟩ ?_)
    refine H.out.mono ?_
    rw [Hk1.out]
    rintro e w1 ⟨rfl, hc1⟩
    go_wp2_with (with_reducible first | refine stop_append ?_ | refine stop_copy ?_ | refine stop_make ?_ | refine stop_lookup ?_ | refine stop_update ?_ | refine stop_slice ?_ | refine stop_range ?_ | refine stop_next ?_ | refine stop_convert ⟨_, rfl⟩ ?_ | refine stop_convertB ⟨_, _, _, rfl⟩ ?_ | refine stop_eqSlice ⟨_, _, rfl⟩ ?_)
    go_loopw [3, 5, 11] (fun v3 v5 v11 wr => ∃ k : Nat, k ≤ xs.length ∧ v11 = .int .i64 k ∧ v3 = .int .i64 (xs.take k).sum ∧ Chg No w wr) (fun _ _ v11 _ => xs.length - (intOf v11).toNat)
    case atStart => exact ⟨0, by omega, rfl, rfl, hc1⟩
    case round =>
      obtain ⟨k, hk, rfl, rfl, hc2⟩ := hrel
      by_cases hlt : k < xs.length
      · obtain ⟨b, o, d, rfl, _, hbl, rfl, ha⟩ := (Hs.out.keepNo hc2).get k hlt
        have ha0 := ha 0 _ rfl
        simp only [show Rep.n Int = 1 from rfl, Nat.mul_one, Nat.add_zero] at ha0
        have hsum : (xs.take (k + 1)).sum = (xs.take k).sum + xs[k] := by rw [List.take_succ_eq_append_getElem hlt, List.sum_append]; simp only [List.sum_cons, List.sum_nil, Int.add_zero]
        have hb1 : 0 ≤ (xs.take k).sum ∧ (xs.take k).sum ≤ 1099511627776 * k := by
          have : ∀ l : List Int, (∀ n ∈ l, 0 ≤ n ∧ n ≤ 1099511627776) → 0 ≤ l.sum ∧ l.sum ≤ 1099511627776 * l.length := by
            intro l
            induction l with
            | nil => intro _; simp
            | cons x r ih =>
              intro hl
              have h1 := hl x (by simp)
              have h2 := ih (fun n hn => hl n (by simp [hn]))
              simp only [List.sum_cons, List.length_cons]
              omega
          have := this (xs.take k) (fun n hn => Hv.out.2.2 n (List.mem_of_mem_take hn))
          rw [List.length_take, Nat.min_eq_left (by omega)] at this
          exact this
        have hb2 := Hv.out.2.2 _ (List.getElem_mem hlt)
        clear ha
        generalize xs[k] = x at ha0 hsum hb2
        generalize (xs.take k).sum = s at hsum hb1
        have Hsum := Lib.hid hsum
        clear hsum
        have hwr : IntKind.i64.wrap (s + x) = s + x := IntWalk.i64_in _ (by omega)
        go_wp2_with (with_reducible first | refine stop_append ?_ | refine stop_copy ?_ | refine stop_make ?_ | refine stop_lookup ?_ | refine stop_update ?_ | refine stop_slice ?_ | refine stop_range ?_ | refine stop_next ?_ | refine stop_convert ⟨_, rfl⟩ ?_ | refine stop_convertB ⟨_, _, _, rfl⟩ ?_ | refine stop_eqSlice ⟨_, _, rfl⟩ ?_)
        go_roundw
        case rel => exact ⟨k + 1, by omega, by go_num, by rw [Hsum.out], hc2⟩
        case measure => simp [intOf]; omega
      · obtain rfl : k = xs.length := by omega
        rw [List.take_length]
        go_wp2_with (with_reducible first | refine stop_append ?_ | refine stop_copy ?_ | refine stop_make ?_ | refine stop_lookup ?_ | refine stop_update ?_ | refine stop_slice ?_ | refine stop_range ?_ | refine stop_next ?_ | refine stop_convert ⟨_, rfl⟩ ?_ | refine stop_convertB ⟨_, _, _, rfl⟩ ?_ | refine stop_eqSlice ⟨_, _, rfl⟩ ?_)
        go_ret
        rw [Hk.out]
        exact ⟨rfl, hc2⟩
  · have hk : vright xs = false := by simpa using hk
    have Hk := Lib.hid (show total xs = 0 by simp [total, hk])
    have Hk1 := Lib.hid hk
    clear hk
    go_enter Try.func64, Try.ntmps64
    go_wp2_with (with_reducible first | refine stop_append ?_ | refine stop_copy ?_ | refine stop_make ?_ | refine stop_lookup ?_ | refine stop_update ?_ | refine stop_slice ?_ | refine stop_range ?_ | refine stop_next ?_ | refine stop_convert ⟨_, rfl⟩ ?_ | refine stop_convertB ⟨_, _, _, rfl⟩ ?_ | refine stop_eqSlice ⟨_, _, rfl⟩ ?_)
    refine H.out.mono ?_
    rw [Hk1.out]
    rintro e w1 ⟨rfl, hc1⟩
    go_wp2_with (with_reducible first | refine stop_append ?_ | refine stop_copy ?_ | refine stop_make ?_ | refine stop_lookup ?_ | refine stop_update ?_ | refine stop_slice ?_ | refine stop_range ?_ | refine stop_next ?_ | refine stop_convert ⟨_, rfl⟩ ?_ | refine stop_convertB ⟨_, _, _, rfl⟩ ?_ | refine stop_eqSlice ⟨_, _, rfl⟩ ?_)
    go_ret
    rw [Hk.out]
    exact ⟨rfl, hc1⟩
theorem veq_nil_run {t e : TypeId} (h : Try.prog.underlying t = some (.slice e)) (A : Option Addr) (n c : Nat) (W : World) : (binOp .eql t (.slice A n c) (.slice none 0 0)).run Try.prog W = .ok (.bool A.isNone) W := by
  unfold binOp; simp [go_sem, run_equal_slice_nil W t e A n c h]
set_option maxRecDepth 100000 in
set_option maxHeartbeats 1000000 in
theorem vclone_any (F : Nat → Prop) (v : Value) (ws : List Int) (w : World) (h : Sl F w v ws) (hl : ws.length ≤ 1000000) :
    Calls Try.prog 66 #[v] w fun e w' => ∃ v', e = .returned v' ∧ Chg No w w' ∧ Sl (Lt w.heap.size) w' v' ws := by
  obtain ⟨A, c, rfl⟩ := h.slice
  have heq := fun n => veq_nil_run Try.underlying46 A n c
  cases A with
  | none =>
    have hnil : ws = [] := by
      obtain ⟨A', c', e, _, h | ⟨b, o, rfl, _⟩⟩ := h
      · exact h
      · cases e
    subst hnil
    go_enter Try.func66, Try.ntmps66
    go_wp2_with (with_reducible first | refine stop_append ?_ | refine stop_copy ?_ | refine stop_make ?_ | refine stop_lookup ?_ | refine stop_update ?_ | refine stop_slice ?_ | refine stop_range ?_ | refine stop_next ?_ | refine stop_convert ⟨_, rfl⟩ ?_ | refine stop_convertB ⟨_, _, _, rfl⟩ ?_)
    go_ret
    exact ⟨_, rfl, Chg.refl _ _, Sl.nil _ _ _ _⟩
  | some a =>
    have hc0 := (Chg.refl No w).alloc (.cells #[] 3)
    have h1 := h.keepNo hc0
    have own0 := Own.made0 (α := Int) No w 3
    go_enter Try.func66, Try.ntmps66
    go_wp2_with (with_reducible first | refine stop_append ?_ | refine stop_copy ?_ | refine stop_make ?_ | refine stop_lookup ?_ | refine stop_update ?_ | refine stop_slice ?_ | refine stop_range ?_ | refine stop_next ?_ | refine stop_convert ⟨_, rfl⟩ ?_ | refine stop_convertB ⟨_, _, _, rfl⟩ ?_)
    generalize hw0 : w.alloc (.cells #[] 3) = w0 at *
    have hsz : w.heap.size ≤ w0.heap.size := hc0.size
    refine step_append_flat (α := Int) (ys := ws) Try.underlying46 vinfo_int rfl own0 rfl rfl h1 (by simp; omega) (by simp; omega) hsz ?_
    intro v1 w1 hown hg
    rw [List.nil_append] at hown
    have hc1 : Chg No w w1 := hc0.grew hg (fun k hk => by simp [Value.ownBlock] at hk; omega)
    have hsl : Sl (Lt w.heap.size) w1 v1 ws := hown.slFlat (fun k hk f => by have := (hown.lt k hk).1; simp only [Lt] at f; omega)
    have Hsl := Lib.hid hsl
    clear hsl hown hg own0 h1
    go_wp2_with (with_reducible first | refine stop_append ?_ | refine stop_copy ?_ | refine stop_make ?_ | refine stop_lookup ?_ | refine stop_update ?_ | refine stop_slice ?_ | refine stop_range ?_ | refine stop_next ?_ | refine stop_convert ⟨_, rfl⟩ ?_ | refine stop_convertB ⟨_, _, _, rfl⟩ ?_ | refine stop_eqSlice ⟨_, _, rfl⟩ ?_)
    go_ret
    exact ⟨_, rfl, hc1, Hsl.out⟩
theorem vzero_yes (n : Nat) (w : World) (h1 : 1 ≤ n) (h8 : n ≤ 8) : Calls Try.prog 61 #[.int .i64 n] w fun e w' => ∃ a c, e = .returned (.slice (some a) n c) ∧ Chg No w w' ∧ Sl (Lt w.heap.size) w' (.slice (some a) n c) (List.replicate n (0 : Int)) := by
  go_enter Try.func61, Try.ntmps61
  go_wp2_with (with_reducible first | refine stop_append ?_ | refine stop_copy ?_ | refine stop_make ?_ | refine stop_lookup ?_ | refine stop_update ?_ | refine stop_slice ?_ | refine stop_range ?_ | refine stop_next ?_ | refine stop_convert ⟨_, rfl⟩ ?_ | refine stop_convertB ⟨_, _, _, rfl⟩ ?_ | refine stop_eqSlice ⟨_, _, rfl⟩ ?_)
  refine step_make (α := Int) No w.heap.size 0 Try.underlying46 vinfo_int rfl (by decide) rfl rfl (by omega) (by omega) (Nat.le_refl _) ?_
  intro v w1 hown hob hc1
  have hsl : Sl (Lt w.heap.size) w1 v (List.replicate n (0 : Int)) := hown.slFlat (fun k hk f => by have := (hown.lt k hk).1; simp only [Lt] at f; omega)
  obtain ⟨A, c, rfl⟩ := hown.slice
  rw [List.length_replicate] at hsl hob ⊢
  have ha : ∃ a, A = some a := by
    cases A with
    | none => simp [Value.ownBlock] at hob
    | some a => exact ⟨a, rfl⟩
  obtain ⟨a, rfl⟩ := ha
  have Hsl := Lib.hid hsl
  clear hsl hown hob
  go_wp2_with (with_reducible first | refine stop_append ?_ | refine stop_copy ?_ | refine stop_make ?_ | refine stop_lookup ?_ | refine stop_update ?_ | refine stop_slice ?_ | refine stop_range ?_ | refine stop_next ?_ | refine stop_convert ⟨_, rfl⟩ ?_ | refine stop_convertB ⟨_, _, _, rfl⟩ ?_ | refine stop_eqSlice ⟨_, _, rfl⟩ ?_)
  go_ret
  exact ⟨_, _, rfl, hc1, Hsl.out⟩
end Go.Proofs.Ytbjpoamnglfjeaa


/- Walks of package entry: within, Right. -/
set_option linter.unusedVariables false
set_option linter.unusedSimpArgs false
namespace Go.Proofs.Ytbjpoamnglfjeaa
open Go.RowKit Cb

theorem ewithin_any (n a b : Int) (w : World) : Calls Try.prog 92 #[.int .i64 n, .int .i64 a, .int .i64 b] w fun e w' => e = .returned (.bool (wiB n a b)) ∧ w = w' := by
  have hd : ∀ r, wiB n a b = r → Hid (wiB n a b = r) := fun _ h => h
  by_cases h : a ≤ n
  · have H := hd _ (by rw [wiB, decide_eq_true h, Bool.true_and])
    go_enter Try.func92, Try.ntmps92
    go_wp2
    go_ret
    rw [H.out]; exact ⟨rfl, rfl⟩
  · have H := hd _ (by rw [wiB, decide_eq_false h, Bool.false_and])
    go_enter Try.func92, Try.ntmps92
    go_wp2
    go_ret
    rw [H.out]; exact ⟨rfl, rfl⟩
/-- An entry's value, its cut a slice value. -/
def entV (e : Ent) (v : Value) : Value := .agg #[.int .i64 e.1, .int .i64 e.2.1, v, .int .i64 e.2.2.2.1, .int .i64 e.2.2.2.2.1, .int .i64 e.2.2.2.2.2]
set_option maxRecDepth 100000 in
set_option maxHeartbeats 1000000 in
theorem eright_any (F : Nat → Prop) (e : Ent) (v : Value) (w : World) (hs : Sl F w v e.2.2.1) (hl : e.2.2.1.length * 8 ≤ 140737488355328) :
    Calls Try.prog 62 #[entV e v] w fun x w' => x = .returned (.bool (entR e)) ∧ Chg No w w' := by
  obtain ⟨n, k, cut, tag, t, p⟩ := e
  simp only at hs hl
  obtain ⟨A, c, rfl, hc, _⟩ := id hs
  have o1 := alloc_obj w (.cells #[.int .i64 n, .int .i64 k, .slice A cut.length c, .int .i64 tag, .int .i64 t, .int .i64 p] 58)
  have hc0 := (Chg.refl No w).alloc (.cells #[.int .i64 n, .int .i64 k, .slice A cut.length c, .int .i64 tag, .int .i64 t, .int .i64 p] 58)
  have Hv := Lib.hid (fun W hW => vright_any F _ _ W (hs.keepNo hW) hl)
  have Hw1 := Lib.hid (ewithin_any n 1 1099511627776)
  have Hw2 := Lib.hid (ewithin_any tag 0 1073741824)
  have Hw3 := Lib.hid (ewithin_any t 1 64)
  have Hw4 := Lib.hid (ewithin_any p 0 1099511627776)
  have H := Lib.hid (show (wiB n 1 1099511627776 && (if k = 1 then vright cut && (decide (tag = 0) && (decide (t = 0) && decide (p = 0))) else if k = 2 then decide (cut.length = 0) && (wiB tag 0 1073741824 && (wiB t 1 64 && wiB p 0 1099511627776)) else false)) = entR (n, k, cut, tag, t, p) from rfl)
  unfold entV
  simp only
  generalize entR (n, k, cut, tag, t, p) = r at H ⊢
  generalize wiB n 1 1099511627776 = b1 at Hw1 H
  generalize wiB tag 0 1073741824 = b2 at Hw2 H
  generalize wiB t 1 64 = b3 at Hw3 H
  generalize wiB p 0 1099511627776 = b4 at Hw4 H
  generalize vright cut = b5 at Hv H
  clear hs
  cases b1 with
  | false =>
    go_enter Try.func62, Try.ntmps62
    go_wp2_with (with_reducible first | refine stop_append ?_ | refine stop_copy ?_ | refine stop_make ?_ | refine stop_lookup ?_ | refine stop_update ?_ | refine stop_slice ?_ | refine stop_range ?_ | refine stop_next ?_ | refine stop_convert ⟨_, rfl⟩ ?_ | refine stop_convertB ⟨_, _, _, rfl⟩ ?_ | refine stop_eqSlice ⟨_, _, rfl⟩ ?_)
    generalize w.alloc (.cells #[.int .i64 n, .int .i64 k, .slice A cut.length c, .int .i64 tag, .int .i64 t, .int .i64 p] 58) = w0 at *
    generalize w.heap.size = q at *
    refine (Hw1.out _).mono ?_
    rintro x w1 ⟨rfl, rfl⟩
    go_wp2_with (with_reducible first | refine stop_append ?_ | refine stop_copy ?_ | refine stop_make ?_ | refine stop_lookup ?_ | refine stop_update ?_ | refine stop_slice ?_ | refine stop_range ?_ | refine stop_next ?_ | refine stop_convert ⟨_, rfl⟩ ?_ | refine stop_convertB ⟨_, _, _, rfl⟩ ?_ | refine stop_eqSlice ⟨_, _, rfl⟩ ?_)
    go_ret
    exact ⟨by rw [← H.out]; rfl, hc0⟩
  | true =>
    by_cases hk1 : k = 1
    · subst hk1
      cases b5 with
      | false =>
        go_enter Try.func62, Try.ntmps62
        go_wp2_with (with_reducible first | refine stop_append ?_ | refine stop_copy ?_ | refine stop_make ?_ | refine stop_lookup ?_ | refine stop_update ?_ | refine stop_slice ?_ | refine stop_range ?_ | refine stop_next ?_ | refine stop_convert ⟨_, rfl⟩ ?_ | refine stop_convertB ⟨_, _, _, rfl⟩ ?_ | refine stop_eqSlice ⟨_, _, rfl⟩ ?_)
        generalize w.alloc (.cells #[.int .i64 n, .int .i64 1, .slice A cut.length c, .int .i64 tag, .int .i64 t, .int .i64 p] 58) = w0 at *
        generalize w.heap.size = q at *
        refine (Hw1.out _).mono ?_
        rintro x w1 ⟨rfl, rfl⟩
        have c1 := cell_obj (i := 1) o1 rfl
        have c2 := cell_obj (i := 2) o1 rfl
        go_wp2_with (with_reducible first | refine stop_append ?_ | refine stop_copy ?_ | refine stop_make ?_ | refine stop_lookup ?_ | refine stop_update ?_ | refine stop_slice ?_ | refine stop_range ?_ | refine stop_next ?_ | refine stop_convert ⟨_, rfl⟩ ?_ | refine stop_convertB ⟨_, _, _, rfl⟩ ?_ | refine stop_eqSlice ⟨_, _, rfl⟩ ?_)
        refine (Hv.out _ hc0).mono ?_
        rintro x w2 ⟨rfl, hc2⟩
        go_wp2_with (with_reducible first | refine stop_append ?_ | refine stop_copy ?_ | refine stop_make ?_ | refine stop_lookup ?_ | refine stop_update ?_ | refine stop_slice ?_ | refine stop_range ?_ | refine stop_next ?_ | refine stop_convert ⟨_, rfl⟩ ?_ | refine stop_convertB ⟨_, _, _, rfl⟩ ?_ | refine stop_eqSlice ⟨_, _, rfl⟩ ?_)
        go_ret
        exact ⟨by rw [← H.out]; simp, hc0.trans hc2⟩
      | true =>
        go_enter Try.func62, Try.ntmps62
        go_wp2_with (with_reducible first | refine stop_append ?_ | refine stop_copy ?_ | refine stop_make ?_ | refine stop_lookup ?_ | refine stop_update ?_ | refine stop_slice ?_ | refine stop_range ?_ | refine stop_next ?_ | refine stop_convert ⟨_, rfl⟩ ?_ | refine stop_convertB ⟨_, _, _, rfl⟩ ?_ | refine stop_eqSlice ⟨_, _, rfl⟩ ?_)
        generalize w.alloc (.cells #[.int .i64 n, .int .i64 1, .slice A cut.length c, .int .i64 tag, .int .i64 t, .int .i64 p] 58) = w0 at *
        generalize w.heap.size = q at *
        refine (Hw1.out _).mono ?_
        rintro x w1 ⟨rfl, rfl⟩
        have c1 := cell_obj (i := 1) o1 rfl
        have c2 := cell_obj (i := 2) o1 rfl
        go_wp2_with (with_reducible first | refine stop_append ?_ | refine stop_copy ?_ | refine stop_make ?_ | refine stop_lookup ?_ | refine stop_update ?_ | refine stop_slice ?_ | refine stop_range ?_ | refine stop_next ?_ | refine stop_convert ⟨_, rfl⟩ ?_ | refine stop_convertB ⟨_, _, _, rfl⟩ ?_ | refine stop_eqSlice ⟨_, _, rfl⟩ ?_)
        refine (Hv.out _ hc0).mono ?_
        rintro x w2 ⟨rfl, hc2⟩
        have c3 := hc2.cell (cell_obj (i := 3) o1 rfl) (not_no _)
        have c4 := hc2.cell (cell_obj (i := 4) o1 rfl) (not_no _)
        have c5 := hc2.cell (cell_obj (i := 5) o1 rfl) (not_no _)
        by_cases ht : tag = 0
        · subst ht
          by_cases h2 : t = 0 ∧ p = 0
          · obtain ⟨rfl, rfl⟩ := h2
            go_wp2_with (with_reducible first | refine stop_append ?_ | refine stop_copy ?_ | refine stop_make ?_ | refine stop_lookup ?_ | refine stop_update ?_ | refine stop_slice ?_ | refine stop_range ?_ | refine stop_next ?_ | refine stop_convert ⟨_, rfl⟩ ?_ | refine stop_convertB ⟨_, _, _, rfl⟩ ?_ | refine stop_eqSlice ⟨_, _, rfl⟩ ?_)
            go_ret
            exact ⟨by rw [← H.out]; simp, hc0.trans hc2⟩
          · have h2' : (t == 0 && p == 0) = false := by simpa using h2
            go_wp2_with (with_reducible first | refine stop_append ?_ | refine stop_copy ?_ | refine stop_make ?_ | refine stop_lookup ?_ | refine stop_update ?_ | refine stop_slice ?_ | refine stop_range ?_ | refine stop_next ?_ | refine stop_convert ⟨_, rfl⟩ ?_ | refine stop_convertB ⟨_, _, _, rfl⟩ ?_ | refine stop_eqSlice ⟨_, _, rfl⟩ ?_)
            all_goals
              go_ret
              exact ⟨by rw [← H.out]; simp; exact fun a b => h2 ⟨a, b⟩, hc0.trans hc2⟩
        · have ht1 : (tag == 0) = false := by simpa using ht
          go_wp2_with (with_reducible first | refine stop_append ?_ | refine stop_copy ?_ | refine stop_make ?_ | refine stop_lookup ?_ | refine stop_update ?_ | refine stop_slice ?_ | refine stop_range ?_ | refine stop_next ?_ | refine stop_convert ⟨_, rfl⟩ ?_ | refine stop_convertB ⟨_, _, _, rfl⟩ ?_ | refine stop_eqSlice ⟨_, _, rfl⟩ ?_)
          go_ret
          exact ⟨by rw [← H.out]; simp [ht], hc0.trans hc2⟩
    · have hk1' : (k == 1) = false := by simpa using hk1
      have Hk1 := Lib.hid hk1
      clear hk1
      by_cases hk2 : k = 2
      · subst hk2
        by_cases hcut : cut.length = 0
        · have Hcut := Lib.hid hcut
          have hcut1 : ((cut.length : Int) == 0) = true := by simp; simpa using hcut
          clear hcut
          cases b2 with
          | false =>
            go_enter Try.func62, Try.ntmps62
            go_wp2_with (with_reducible first | refine stop_append ?_ | refine stop_copy ?_ | refine stop_make ?_ | refine stop_lookup ?_ | refine stop_update ?_ | refine stop_slice ?_ | refine stop_range ?_ | refine stop_next ?_ | refine stop_convert ⟨_, rfl⟩ ?_ | refine stop_convertB ⟨_, _, _, rfl⟩ ?_ | refine stop_eqSlice ⟨_, _, rfl⟩ ?_)
            generalize w.alloc (.cells #[.int .i64 n, .int .i64 2, .slice A cut.length c, .int .i64 tag, .int .i64 t, .int .i64 p] 58) = w0 at *
            generalize w.heap.size = q at *
            refine (Hw1.out _).mono ?_
            rintro x w1 ⟨rfl, rfl⟩
            have c1 := cell_obj (i := 1) o1 rfl
            have c2 := cell_obj (i := 2) o1 rfl
            have c3 := cell_obj (i := 3) o1 rfl
            go_wp2_with (with_reducible first | refine stop_append ?_ | refine stop_copy ?_ | refine stop_make ?_ | refine stop_lookup ?_ | refine stop_update ?_ | refine stop_slice ?_ | refine stop_range ?_ | refine stop_next ?_ | refine stop_convert ⟨_, rfl⟩ ?_ | refine stop_convertB ⟨_, _, _, rfl⟩ ?_ | refine stop_eqSlice ⟨_, _, rfl⟩ ?_)
            refine (Hw2.out _).mono ?_
            rintro x w2 ⟨rfl, rfl⟩
            go_wp2_with (with_reducible first | refine stop_append ?_ | refine stop_copy ?_ | refine stop_make ?_ | refine stop_lookup ?_ | refine stop_update ?_ | refine stop_slice ?_ | refine stop_range ?_ | refine stop_next ?_ | refine stop_convert ⟨_, rfl⟩ ?_ | refine stop_convertB ⟨_, _, _, rfl⟩ ?_ | refine stop_eqSlice ⟨_, _, rfl⟩ ?_)
            go_ret
            exact ⟨by rw [← H.out]; simp, hc0⟩
          | true =>
            cases b3 with
            | false =>
              go_enter Try.func62, Try.ntmps62
              go_wp2_with (with_reducible first | refine stop_append ?_ | refine stop_copy ?_ | refine stop_make ?_ | refine stop_lookup ?_ | refine stop_update ?_ | refine stop_slice ?_ | refine stop_range ?_ | refine stop_next ?_ | refine stop_convert ⟨_, rfl⟩ ?_ | refine stop_convertB ⟨_, _, _, rfl⟩ ?_ | refine stop_eqSlice ⟨_, _, rfl⟩ ?_)
              generalize w.alloc (.cells #[.int .i64 n, .int .i64 2, .slice A cut.length c, .int .i64 tag, .int .i64 t, .int .i64 p] 58) = w0 at *
              generalize w.heap.size = q at *
              refine (Hw1.out _).mono ?_
              rintro x w1 ⟨rfl, rfl⟩
              have c1 := cell_obj (i := 1) o1 rfl
              have c2 := cell_obj (i := 2) o1 rfl
              have c3 := cell_obj (i := 3) o1 rfl
              have c4 := cell_obj (i := 4) o1 rfl
              go_wp2_with (with_reducible first | refine stop_append ?_ | refine stop_copy ?_ | refine stop_make ?_ | refine stop_lookup ?_ | refine stop_update ?_ | refine stop_slice ?_ | refine stop_range ?_ | refine stop_next ?_ | refine stop_convert ⟨_, rfl⟩ ?_ | refine stop_convertB ⟨_, _, _, rfl⟩ ?_ | refine stop_eqSlice ⟨_, _, rfl⟩ ?_)
              refine (Hw2.out _).mono ?_
              rintro x w2 ⟨rfl, rfl⟩
              go_wp2_with (with_reducible first | refine stop_append ?_ | refine stop_copy ?_ | refine stop_make ?_ | refine stop_lookup ?_ | refine stop_update ?_ | refine stop_slice ?_ | refine stop_range ?_ | refine stop_next ?_ | refine stop_convert ⟨_, rfl⟩ ?_ | refine stop_convertB ⟨_, _, _, rfl⟩ ?_ | refine stop_eqSlice ⟨_, _, rfl⟩ ?_)
              refine (Hw3.out _).mono ?_
              rintro x w3 ⟨rfl, rfl⟩
              go_wp2_with (with_reducible first | refine stop_append ?_ | refine stop_copy ?_ | refine stop_make ?_ | refine stop_lookup ?_ | refine stop_update ?_ | refine stop_slice ?_ | refine stop_range ?_ | refine stop_next ?_ | refine stop_convert ⟨_, rfl⟩ ?_ | refine stop_convertB ⟨_, _, _, rfl⟩ ?_ | refine stop_eqSlice ⟨_, _, rfl⟩ ?_)
              go_ret
              exact ⟨by rw [← H.out]; simp, hc0⟩
            | true =>
              go_enter Try.func62, Try.ntmps62
              go_wp2_with (with_reducible first | refine stop_append ?_ | refine stop_copy ?_ | refine stop_make ?_ | refine stop_lookup ?_ | refine stop_update ?_ | refine stop_slice ?_ | refine stop_range ?_ | refine stop_next ?_ | refine stop_convert ⟨_, rfl⟩ ?_ | refine stop_convertB ⟨_, _, _, rfl⟩ ?_ | refine stop_eqSlice ⟨_, _, rfl⟩ ?_)
              generalize w.alloc (.cells #[.int .i64 n, .int .i64 2, .slice A cut.length c, .int .i64 tag, .int .i64 t, .int .i64 p] 58) = w0 at *
              generalize w.heap.size = q at *
              refine (Hw1.out _).mono ?_
              rintro x w1 ⟨rfl, rfl⟩
              have c1 := cell_obj (i := 1) o1 rfl
              have c2 := cell_obj (i := 2) o1 rfl
              have c3 := cell_obj (i := 3) o1 rfl
              have c4 := cell_obj (i := 4) o1 rfl
              have c5 := cell_obj (i := 5) o1 rfl
              go_wp2_with (with_reducible first | refine stop_append ?_ | refine stop_copy ?_ | refine stop_make ?_ | refine stop_lookup ?_ | refine stop_update ?_ | refine stop_slice ?_ | refine stop_range ?_ | refine stop_next ?_ | refine stop_convert ⟨_, rfl⟩ ?_ | refine stop_convertB ⟨_, _, _, rfl⟩ ?_ | refine stop_eqSlice ⟨_, _, rfl⟩ ?_)
              refine (Hw2.out _).mono ?_
              rintro x w2 ⟨rfl, rfl⟩
              go_wp2_with (with_reducible first | refine stop_append ?_ | refine stop_copy ?_ | refine stop_make ?_ | refine stop_lookup ?_ | refine stop_update ?_ | refine stop_slice ?_ | refine stop_range ?_ | refine stop_next ?_ | refine stop_convert ⟨_, rfl⟩ ?_ | refine stop_convertB ⟨_, _, _, rfl⟩ ?_ | refine stop_eqSlice ⟨_, _, rfl⟩ ?_)
              refine (Hw3.out _).mono ?_
              rintro x w3 ⟨rfl, rfl⟩
              go_wp2_with (with_reducible first | refine stop_append ?_ | refine stop_copy ?_ | refine stop_make ?_ | refine stop_lookup ?_ | refine stop_update ?_ | refine stop_slice ?_ | refine stop_range ?_ | refine stop_next ?_ | refine stop_convert ⟨_, rfl⟩ ?_ | refine stop_convertB ⟨_, _, _, rfl⟩ ?_ | refine stop_eqSlice ⟨_, _, rfl⟩ ?_)
              refine (Hw4.out _).mono ?_
              rintro x w4 ⟨rfl, rfl⟩
              go_wp2_with (with_reducible first | refine stop_append ?_ | refine stop_copy ?_ | refine stop_make ?_ | refine stop_lookup ?_ | refine stop_update ?_ | refine stop_slice ?_ | refine stop_range ?_ | refine stop_next ?_ | refine stop_convert ⟨_, rfl⟩ ?_ | refine stop_convertB ⟨_, _, _, rfl⟩ ?_ | refine stop_eqSlice ⟨_, _, rfl⟩ ?_)
              go_ret
              exact ⟨by rw [← H.out]; simp [Hcut.out], hc0⟩
        · have hcut' : ((cut.length : Int) == 0) = false := by simp; simpa using hcut
          have Hcut := Lib.hid hcut
          go_enter Try.func62, Try.ntmps62
          go_wp2_with (with_reducible first | refine stop_append ?_ | refine stop_copy ?_ | refine stop_make ?_ | refine stop_lookup ?_ | refine stop_update ?_ | refine stop_slice ?_ | refine stop_range ?_ | refine stop_next ?_ | refine stop_convert ⟨_, rfl⟩ ?_ | refine stop_convertB ⟨_, _, _, rfl⟩ ?_ | refine stop_eqSlice ⟨_, _, rfl⟩ ?_)
          generalize w.alloc (.cells #[.int .i64 n, .int .i64 2, .slice A cut.length c, .int .i64 tag, .int .i64 t, .int .i64 p] 58) = w0 at *
          generalize w.heap.size = q at *
          refine (Hw1.out _).mono ?_
          rintro x w1 ⟨rfl, rfl⟩
          have c1 := cell_obj (i := 1) o1 rfl
          have c2 := cell_obj (i := 2) o1 rfl
          go_wp2_with (with_reducible first | refine stop_append ?_ | refine stop_copy ?_ | refine stop_make ?_ | refine stop_lookup ?_ | refine stop_update ?_ | refine stop_slice ?_ | refine stop_range ?_ | refine stop_next ?_ | refine stop_convert ⟨_, rfl⟩ ?_ | refine stop_convertB ⟨_, _, _, rfl⟩ ?_ | refine stop_eqSlice ⟨_, _, rfl⟩ ?_)
          go_ret
          exact ⟨by rw [← H.out]; have := Hcut.out; simp [this], hc0⟩
      · have hk2' : (k == 2) = false := by simpa using hk2
        have Hk2 := Lib.hid hk2
        clear hk2
        go_enter Try.func62, Try.ntmps62
        go_wp2_with (with_reducible first | refine stop_append ?_ | refine stop_copy ?_ | refine stop_make ?_ | refine stop_lookup ?_ | refine stop_update ?_ | refine stop_slice ?_ | refine stop_range ?_ | refine stop_next ?_ | refine stop_convert ⟨_, rfl⟩ ?_ | refine stop_convertB ⟨_, _, _, rfl⟩ ?_ | refine stop_eqSlice ⟨_, _, rfl⟩ ?_)
        generalize w.alloc (.cells #[.int .i64 n, .int .i64 k, .slice A cut.length c, .int .i64 tag, .int .i64 t, .int .i64 p] 58) = w0 at *
        generalize w.heap.size = q at *
        refine (Hw1.out _).mono ?_
        rintro x w1 ⟨rfl, rfl⟩
        have c1 := cell_obj (i := 1) o1 rfl
        go_wp2_with (with_reducible first | refine stop_append ?_ | refine stop_copy ?_ | refine stop_make ?_ | refine stop_lookup ?_ | refine stop_update ?_ | refine stop_slice ?_ | refine stop_range ?_ | refine stop_next ?_ | refine stop_convert ⟨_, rfl⟩ ?_ | refine stop_convertB ⟨_, _, _, rfl⟩ ?_ | refine stop_eqSlice ⟨_, _, rfl⟩ ?_)
        go_ret
        exact ⟨by rw [← H.out]; simp [Hk1.out, Hk2.out], hc0⟩
end Go.Proofs.Ytbjpoamnglfjeaa


/- Rows that are cut, and appended to where there is no room: words and laws that speak of no program. -/
set_option linter.unusedVariables false
namespace Cb
open Go Go.Deep
section
variable {P : Program} {OPS : Array Oper} {Q : Exit → Act → World → Prop} {w : World} {a : Act} {rest : List Oper} {α : Type}
theorem run_append_full [Rep α] {o : Oper} {s x : Operand} {t : TypeId} {F : Nat → Prop} {base : Nat} {e : TypeId} {z : Value} {bytes : Nat}
    (hop : o.op = .call ⟨.builtin .append, #[s, x], #[t, t]⟩)
    (ht : P.underlying t = some (.slice e)) (hi : Info P e z (Rep.n α) bytes) (hz : z.cells.size = Rep.n α)
    {B A : Option Addr} {k n c : Nat} {xs ys : List α} (hv : Sl F w (.slice B k k) xs) (hs : a.eval s = .slice B k k) (hx : a.eval x = .slice A n c)
    (hy : Sl F w (.slice A n c) ys)
    (h63 : xs.length + ys.length ≤ 140737488351232) (hbytes : (xs.length + ys.length) * bytes ≤ 140737488355328) (hbase : base ≤ w.heap.size) :
    ∃ v' w', (execOp a.eval o).run P w = .ok (.value v') w' ∧ ((ys = [] ∧ v' = .slice B k k ∧ w' = w) ∨ Own F w' base e v' (xs ++ ys)) ∧ Chg No w w' := by
  obtain ⟨i, hi', hz0, hz1, hz2⟩ := info_parts hi
  obtain ⟨olds, hso, hol, hod⟩ := Src.sl ht hv
  obtain ⟨news, hsrc, hn, hd⟩ := Src.sl ht hy
  have hk : k = xs.length := hv.len.1
  subst hk
  by_cases hys : ys = []
  · subst hys
    have hn0 : news = [] := List.eq_nil_of_length_eq_zero (by simpa using hn)
    subst hn0
    obtain ⟨hn', _⟩ := hy.len
    simp only [List.length_nil] at hn'
    subst hn'
    refine ⟨.slice B xs.length xs.length, w, ?_, .inl ⟨rfl, rfl, rfl⟩, Chg.refl _ _⟩
    have hsc := hsrc.cells
    simp only [List.length_nil, List.flatten_nil] at hsc
    have hr : (Builtin.append_ #[t, t] o.type #[.slice B xs.length xs.length, .slice A 0 c]).run P w = .ok (.slice B xs.length xs.length) w := by
      have hlen := hsrc.len w
      cases B with
      | none =>
        have hx0 : xs = [] := by
          obtain ⟨A', c', e', _, h | ⟨b, o, rfl, _⟩⟩ := hv
          · exact h
          · cases e'
        subst hx0
        simp [Builtin.append_, run_underlying ht, Go.sizeOf, typeInfo, hi', hlen, hz1, hsc]
      | some ad =>
        have hsc' := hz1 ▸ hsc
        simp [Builtin.append_, run_underlying ht, Go.sizeOf, typeInfo, hi', Builtin.lenOf, hz1, hsc, storeCells]
    simp only [execOp, hop, resolve, invoke, builtin, Sem.run_bind, Sem.run_pure, Result.andThen_ok, List.map_toArray, List.map_cons, List.map_nil, hs, hx, hr]
  · have hpos : 0 < ys.length := List.length_pos_iff.2 hys
    have hr := run_append_grow_src (P := P) w t t o.type e i z ht hi' hz0 B xs.length xs.length olds.flatten (by rw [hz1]; exact hso.cellsD) (.slice A n c) ys.length news.flatten (by rw [hz1]; exact hsrc) (by omega) (by omega) (growslice_fits (by omega) (by rw [hz2]; exact hbytes))
    have hc1 : Chg No w (w.drew.alloc (.cells ((olds.flatten ++ news.flatten).toArray ++ Builtin.zeroCells z.cells (grownCap w (xs.length + ys.length) xs.length e - (xs.length + ys.length))) e)) := (Chg.refl No w).drew.alloc _
    refine ⟨_, _, by simp only [execOp, hop, resolve, invoke, builtin, Sem.run_bind, Sem.run_pure, Result.andThen_ok, List.map_toArray, List.map_cons, List.map_nil, hs, hx, hr]; rfl, .inr ⟨olds ++ news, by simp [hol, hn], ?_, ?_⟩, hc1⟩
    · have hkeep : ∀ (y : α) (d : List Value), Rep.cs F w y d → Rep.cs (Or F (OB (.slice (some ⟨w.heap.size, 0, none⟩) (xs.length + ys.length) (grownCap w (xs.length + ys.length) xs.length e)))) (w.drew.alloc (.cells ((olds.flatten ++ news.flatten).toArray ++ Builtin.zeroCells z.cells (grownCap w (xs.length + ys.length) xs.length e - (xs.length + ys.length))) e)) y d := fun y d h =>
        Rep.keep (Rep.weak h (fun b hb g => by
          rcases g with g | g
          · exact g
          · simp [OB, Value.ownBlock] at g; omega)) hc1.of_no
      intro j hj hj'
      by_cases hlt : j < xs.length
      · rw [List.getElem_append_left hlt, List.getElem_append_left (by omega)]
        exact hkeep _ _ (hod j hlt (by omega))
      · rw [List.getElem_append_right (by omega), List.getElem_append_right (by omega)]
        simp only [hol]
        exact hkeep _ _ (hd _ (by simp at hj; omega) (by simp at hj'; omega))
    · have hlen : (olds ++ news).flatten.length = (xs ++ ys).length * Rep.n α := by
        rw [List.flatten_append, List.length_append, hso.newsLen, hsrc.newsLen, List.length_append, Nat.add_mul]
      have hge := grownCap_ge w (xs.length + ys.length) xs.length e
      refine ⟨hlen, .inr ⟨w.heap.size, _, _, by rw [List.length_append], hbase, heap_alloc_new w.drew _, by rw [List.length_append]; exact hge, grownCap_le_maxLen w _ _ e (by simp only [maxLen]; omega), ?_, ?_⟩⟩
      · simp only [Array.size_append, List.size_toArray, size_zeroCells, hz, List.length_append, hso.newsLen, hsrc.newsLen, ← Nat.add_mul]
        congr 1
        omega
      · rw [Array.toList_append, ← hlen, List.flatten_append]
        exact List.take_left
/-- What may be appended to: a row of the call's own (in a block below n0), or one behind which there is no room. -/
def AppT [Rep α] (F : Nat → Prop) (w : World) (base n0 : Nat) (T : TypeId) (v : Value) (xs : List α) : Prop :=
  (Own F w base T v xs ∧ ∀ k, OB v k → k < n0) ∨ (Sl F w v xs ∧ ∃ A n, v = .slice A n n)
theorem AppT.sl [Rep α] {F : Nat → Prop} {base n0 : Nat} {T : TypeId} {v : Value} {xs : List α} (h : AppT F w base n0 T v xs) (hF : ∀ k, F k → k < base) : Sl F w v xs := by
  rcases h with h | h
  · exact h.1.sl (fun k hk f => by have := (h.1.lt k hk).1; have := hF k f; omega)
  · exact h.1
theorem AppT.slice [Rep α] {F : Nat → Prop} {base n0 : Nat} {T : TypeId} {v : Value} {xs : List α} (h : AppT F w base n0 T v xs) : ∃ A c, v = .slice A xs.length c := by
  rcases h with h | h
  · exact h.1.slice
  · exact h.1.slice
theorem AppT.keep [Rep α] {F : Nat → Prop} {w' : World} {base n0 : Nat} {T : TypeId} {v : Value} {xs : List α} (h : AppT F w base n0 T v xs) (hc : Chg F w w') (hF : ∀ k, F k → k < base) : AppT F w' base n0 T v xs := by
  rcases h with h | h
  · exact .inl ⟨h.1.keep hc (fun _ _ f => f) (fun k hk f => by have := (h.1.lt k hk).1; have := hF k f; omega), h.2⟩
  · exact .inr ⟨h.1.keep hc, h.2⟩
theorem AppT.keepNo [Rep α] {F : Nat → Prop} {w' : World} {base n0 : Nat} {T : TypeId} {v : Value} {xs : List α} (h : AppT F w base n0 T v xs) (hc : Chg No w w') (hF : ∀ k, F k → k < base) : AppT F w' base n0 T v xs := h.keep hc.of_no hF
end
section
variable {P : Program} {ops : Array Oper} {Q : Exit → Act → World → Prop} {S : World → Prop} {fuel : Nat} {listed : Array Bool} {a : Act} {w : World}
end
end Cb


/- A row of plain values that an object holds and appends to. It speaks of no program. -/
set_option linter.unusedVariables false
namespace Cb
open Go Go.Deep
section
variable {P : Program} {OPS : Array Oper} {Q : Exit → Act → World → Prop} {w : World} {a : Act} {rest : List Oper} {α : Type}
/-- Either it is the holder's own, clear of F, or there is no room behind it (then an append lays a new one). -/
def RowT [Rep α] (F : Nat → Prop) (w : World) (lo : Nat) (T : TypeId) (v : Value) (xs : List α) : Prop :=
  (Own No w lo T v xs ∧ ∀ k, OB v k → ¬ F k) ∨ (Sl F w v xs ∧ ∃ A n, v = .slice A n n)
theorem RowT.sl [Rep α] [Flat α] {F : Nat → Prop} {lo : Nat} {T : TypeId} {v : Value} {xs : List α} (h : RowT F w lo T v xs) : Sl F w v xs := by
  rcases h with h | h
  · exact h.1.slFlat h.2
  · exact h.1
theorem RowT.slice [Rep α] {F : Nat → Prop} {lo : Nat} {T : TypeId} {v : Value} {xs : List α} (h : RowT F w lo T v xs) : ∃ A c, v = .slice A xs.length c := by
  rcases h with h | h
  · exact h.1.slice
  · exact h.1.slice
theorem RowT.keep [Rep α] [Flat α] {F G : Nat → Prop} {w' : World} {lo : Nat} {T : TypeId} {v : Value} {xs : List α} (h : RowT F w lo T v xs) (hc : Chg G w w') (hG : ∀ k, k < w.heap.size → G k → F k) : RowT F w' lo T v xs := by
  rcases h with h | h
  · exact .inl ⟨h.1.keepFlat hc (fun k hk g => h.2 k hk (hG k (h.1.lt k hk).2 g)), h.2⟩
  · exact .inr ⟨h.1.keep (hc.weak hG), h.2⟩
theorem RowT.keepNo [Rep α] [Flat α] {F : Nat → Prop} {w' : World} {lo : Nat} {T : TypeId} {v : Value} {xs : List α} (h : RowT F w lo T v xs) (hc : Chg No w w') : RowT F w' lo T v xs := h.keep hc (fun _ _ f => f.elim)
theorem RowT.weak [Rep α] {F G : Nat → Prop} {lo : Nat} {T : TypeId} {v : Value} {xs : List α} (h : RowT F w lo T v xs) (hG : ∀ k, k < w.heap.size → G k → F k) : RowT G w lo T v xs := by
  rcases h with h | h
  · exact .inl ⟨h.1, fun k hk g => h.2 k hk (hG k (h.1.lt k hk).2 g)⟩
  · exact .inr ⟨h.1.weak hG, h.2⟩
theorem Own.down [Rep α] {F : Nat → Prop} {b b' : Nat} {T : TypeId} {v : Value} {xs : List α} (h : Own F w b T v xs) (hb : b' ≤ b) : Own F w b' T v xs := by
  obtain ⟨ds, h1, h2, h3, h4⟩ := h
  refine ⟨ds, h1, h2, h3, ?_⟩
  rcases h4 with hn | ⟨g, cap, cur, rfl, hb0, rest⟩
  · exact .inl hn
  · exact .inr ⟨g, cap, cur, rfl, Nat.le_trans hb hb0, rest⟩
/-- A block that an own row lies in holds cells. -/
theorem Own.cells [Rep α] {F : Nat → Prop} {b : Nat} {T : TypeId} {v : Value} {xs : List α} (h : Own F w b T v xs) : ∀ k, OB v k → ∃ C T' fz, w.heap[k]? = some (.cells C T' fz) := by
  obtain ⟨ds, h1, h2, h3, h4⟩ := h
  rcases h4 with ⟨rfl, _⟩ | ⟨g, cap, cur, rfl, hb0, hg, rest⟩
  · intro k hk; simp [OB, Value.ownBlock] at hk
  · intro k hk
    simp only [OB, Value.ownBlock, Option.some.injEq] at hk
    subst hk
    exact ⟨_, _, _, hg⟩
def IsC (w : World) (k : Nat) : Prop := ∃ C T fz, w.heap[k]? = some (.cells C T fz)
theorem run_append_rowT [Rep α] [Flat α] {o : Oper} {s x : Operand} {t : TypeId} {F G : Nat → Prop} {lo : Nat} {e : TypeId} {z : Value} {bytes : Nat}
    (hop : o.op = .call ⟨.builtin .append, #[s, x], #[t, t]⟩)
    (ht : P.underlying t = some (.slice e)) (hi : Info P e z (Rep.n α) bytes) (hz : z.cells.size = Rep.n α)
    {v : Value} {A : Option Addr} {n c : Nat} {xs ys : List α} (hv : RowT F w lo e v xs) (hs : a.eval s = v) (hx : a.eval x = .slice A n c)
    (hy : Sl G w (.slice A n c) ys) (hne : ys ≠ [])
    (h63 : xs.length + ys.length ≤ 140737488351232) (hbytes : (xs.length + ys.length) * bytes ≤ 140737488355328) (hbase : lo ≤ w.heap.size) :
    ∃ v' w', (execOp a.eval o).run P w = .ok (.value v') w' ∧ Own No w' lo e v' (xs ++ ys) ∧ Chg (fun k => OB v k ∧ ¬ F k ∧ IsC w k) w w' ∧ ∀ k, OB v' k → (OB v k ∧ ¬ F k) ∨ w.heap.size ≤ k := by
  rcases hv with ⟨hv, hF⟩ | ⟨hv, B, m, rfl⟩
  · obtain ⟨v', w', hrun, h1, h2⟩ := run_append_flat (a := a) hop ht hi hz hv hs hx hy h63 hbytes hbase
    refine ⟨v', w', hrun, h1, h2.chg.weak (fun k _ h => ⟨h, hF k h, hv.cells k h⟩), fun k hk => ?_⟩
    rcases h2.blk k hk with h | h
    · exact .inl ⟨h, hF k h⟩
    · exact .inr h
  · obtain ⟨v', w', h1, h2, h3⟩ := run_append_full (a := a) (F := No) (base := w.heap.size) hop ht hi hz (hv.weak (fun _ _ f => f.elim)) hs hx (hy.weak (fun _ _ f => f.elim)) h63 hbytes (Nat.le_refl _)
    rcases h2 with ⟨h, _⟩ | h2
    · exact absurd h hne
    · exact ⟨v', w', h1, h2.down hbase, h3.of_no, fun k hk => .inr (h2.lt k hk).1⟩
end
section
variable {P : Program} {ops : Array Oper} {Q : Exit → Act → World → Prop} {S : World → Prop} {fuel : Nat} {listed : Array Bool} {a : Act} {w : World}
theorem rt_append_row {α : Type} [Rep α] [Flat α] (S' : World → Prop) {i : Nat} {d : Option Tmp} {s x : Operand} {t ty : TypeId} {p : String} {af : Array Edge} {gd : Option (Nat × Bool)} {F G : Nat → Prop} {lo : Nat} {e : TypeId} {z : Value} {bytes : Nat}
    (hr : Region.ready .any ops listed = [i]) (hS : S w) (hSS : ∀ w, S' w → S w) (hi0 : ops[i]? = some ⟨d, .call ⟨.builtin .append, #[s, x], #[t, t]⟩, ty, p, af, gd⟩)
    (hw : Region.wanted ⟨d, .call ⟨.builtin .append, #[s, x], #[t, t]⟩, ty, p, af, gd⟩ (yielded ops a.tmps) = true)
    (ht : P.underlying t = some (.slice e)) (hi : Info P e z (Rep.n α) bytes) (hz : z.cells.size = Rep.n α)
    {v : Value} {A : Option Addr} {n c : Nat} {xs ys : List α} (hv : RowT F w lo e v xs) (hs : a.eval s = v) (hx : a.eval x = .slice A n c)
    (hy : Sl G w (.slice A n c) ys) (hne : ys ≠ [])
    (h63 : xs.length + ys.length ≤ 140737488351232) (hbytes : (xs.length + ys.length) * bytes ≤ 140737488355328) (hbase : lo ≤ w.heap.size)
    (h : ∀ v' w', Own No w' lo e v' (xs ++ ys) → Chg (fun k => OB v k ∧ ¬ F k ∧ IsC w k) w w' → (∀ k, OB v' k → (OB v k ∧ ¬ F k) ∨ w.heap.size ≤ k) → RT P ops Q S' fuel (listed.setIfInBounds i true) (a.put d v') w') : RT P ops Q S (fuel + 1) listed a w := by
  obtain ⟨v', w', hrun, h1, h2, h3⟩ := run_append_rowT (a := a) (o := ⟨d, .call ⟨.builtin .append, #[s, x], #[t, t]⟩, ty, p, af, gd⟩) rfl ht hi hz hv hs hx hy hne h63 hbytes hbase
  exact rt_run S' hr hS hSS hi0 hw hrun (h v' w' h1 h2 h3)
end
end Cb


/- An order in memory; walks of package order: Len, Entries, Cut, After, New, Find. -/
set_option linter.unusedVariables false
set_option linter.unusedSimpArgs false
namespace Go.Proofs.Ytbjpoamnglfjeaa
open Go.RowKit Cb

structure OrdV (w : World) (lo hi p : Nat) (lv rv av : Value) (st : OSt) : Prop where
  obj : w.heap[p]? = some (.cells #[lv, rv, av] 122 (0, 0))
  hp : lo ≤ p ∧ p < hi
  hhi : hi ≤ w.heap.size
  sl : Sl (fun k => k < lo ∨ hi ≤ k ∨ k = p ∨ OB rv k ∨ OB av k) w lv st.last
  rr : RowT (fun k => k < lo ∨ hi ≤ k ∨ k = p ∨ OB av k) w lo 124 rv st.runs
  ra : RowT (fun k => k < lo ∨ hi ≤ k ∨ k = p ∨ OB rv k) w lo 3 av st.after
  ob : ∀ k, OB rv k ∨ OB av k → k < hi
def Ord (w : World) (lo hi p : Nat) (st : OSt) : Prop := ∃ lv rv av, OrdV w lo hi p lv rv av st
theorem OrdV.keep {w w' : World} {lo hi p : Nat} {lv rv av : Value} {st : OSt} {G : Nat → Prop} (h : OrdV w lo hi p lv rv av st) (hc : Chg G w w') (hG : ∀ k, G k → k < lo ∨ hi ≤ k) : OrdV w' lo hi p lv rv av st where
  obj := hc.obj h.obj (fun g => by have := h.hp; have := hG p g; omega)
  hp := h.hp
  hhi := Nat.le_trans h.hhi hc.size
  sl := h.sl.keep (hc.weak (fun k _ g => by rcases hG k g with h | h; exact .inl h; exact .inr (.inl h)))
  rr := h.rr.keep hc (fun k _ g => by rcases hG k g with h | h; exact .inl h; exact .inr (.inl h))
  ra := h.ra.keep hc (fun k _ g => by rcases hG k g with h | h; exact .inl h; exact .inr (.inl h))
  ob := h.ob
theorem Ord.keep {w w' : World} {lo hi p : Nat} {st : OSt} {G : Nat → Prop} (h : Ord w lo hi p st) (hc : Chg G w w') (hG : ∀ k, G k → k < lo ∨ hi ≤ k) : Ord w' lo hi p st := by
  obtain ⟨lv, rv, av, h⟩ := h; exact ⟨lv, rv, av, h.keep hc hG⟩
theorem Ord.keepNo {w w' : World} {lo hi p : Nat} {st : OSt} (h : Ord w lo hi p st) (hc : Chg No w w') : Ord w' lo hi p st := h.keep hc (fun _ f => f.elim)
set_option maxRecDepth 100000 in
set_option maxHeartbeats 1000000 in
theorem olen_any {sh lo hi p : Nat} {st : OSt} {w : World} (h : Ord w lo hi p st) (hI : Inv sh st) :
    Calls Try.prog 20 #[.pointer (some ⟨p, 0, none⟩)] w fun e w' => e = .returned (.int .i64 st.len) ∧ Chg No w w' := by
  obtain ⟨lv, rv, av, h⟩ := h
  have hm := hI.many
  have ho := Lib.hid hI.olen
  obtain ⟨a, ha⟩ := hI.aft
  have hs := h.ra.sl
  rw [ho.out, show st.last.sum = (st.after)[a.length]'(by simp [ha]) by simp [ha]]
  have hlen : st.after.length = a.length + 1 := by simp [ha]
  have hlt : a.length < st.after.length := by omega
  obtain ⟨A, c, rfl⟩ := hs.slice
  obtain ⟨b, o, d, rfl, _, hbl, rfl, hc⟩ := hs.get a.length hlt
  have ha0 := hc 0 _ rfl
  simp only [show Rep.n Int = 1 from rfl, Nat.mul_one, Nat.add_zero] at ha0
  have c2 : w.cell? ⟨p, 2, none⟩ = some (.slice (some ⟨b, o, none⟩) st.after.length c) := cell_obj (i := 2) h.obj rfl
  rw [hlen] at c2 hm
  clear h hs hc ho hI
  generalize st.after[a.length] = x at ha0 ⊢
  clear hlt hlen ha
  generalize a.length = m at *
  have hmm : (m : Int) < (m : Int) + 1 := by omega
  go_enter Try.func20, Try.ntmps20
  go_wp2_with (with_reducible first | refine stop_append ?_ | refine stop_copy ?_ | refine stop_make ?_ | refine stop_lookup ?_ | refine stop_update ?_ | refine stop_slice ?_ | refine stop_range ?_ | refine stop_next ?_ | refine stop_convert ⟨_, rfl⟩ ?_ | refine stop_convertB ⟨_, _, _, rfl⟩ ?_ | refine stop_eqSlice ⟨_, _, rfl⟩ ?_)
  refine reg_start (fun W => W.cell? ⟨p, 2, none⟩ = some (.slice (some ⟨b, o, none⟩) (m + 1) c) ∧ W.cell? ⟨b, o + m, none⟩ = some (.int .i64 x)) (by kernel_rfl) ?_
  ((refine reg_yes (i := 0) (oi := { dst := some 3, op := .move (.tmp 0), type := 25, pos := "order.go:59", after := #[], guard := none }) (v := ?_) rfl (by kernel_rfl) (by kernel_rfl) (by kernel_rfl) (fun _ _ _ h => h) rfl ?_ ?_); rotate_left; focus (intro W hW; (try dsimp only at hW); go_split_ands; go_simp; (try (simp (disch := omega) only [IntWalk.i64_in]; (try go_simp))); (try (split; (next => omega); (try go_simp))); try rfl; done))
  try simp only [Act.put, List.setIfInBounds_toArray, List.set_cons_zero, List.set_cons_succ, Nat.reduceAdd]
  ((refine reg_yes (i := 1) (oi := { dst := some 4, op := .nilCheck (.tmp 3), type := 0, pos := "order.go:59", after := #[{ on := 0, ground := .data }], guard := none }) (v := ?_) rfl (by kernel_rfl) (by kernel_rfl) (by kernel_rfl) (fun _ _ _ h => h) rfl ?_ ?_); rotate_left; focus (intro W hW; (try dsimp only at hW); go_split_ands; go_simp; (try (simp (disch := omega) only [IntWalk.i64_in]; (try go_simp))); (try (split; (next => omega); (try go_simp))); try rfl; done))
  try simp only [Act.put, List.setIfInBounds_toArray, List.set_cons_zero, List.set_cons_succ, Nat.reduceAdd]
  ((refine reg_yes (i := 2) (oi := { dst := some 5, op := .fieldAddr 122 (.tmp 4) 2, type := 0, pos := "order.go:59", after := #[{ on := 1, ground := .data }], guard := none }) (v := ?_) rfl (by kernel_rfl) (by kernel_rfl) (by kernel_rfl) (fun _ _ _ h => h) rfl ?_ ?_); rotate_left; focus (intro W hW; (try dsimp only at hW); go_split_ands; go_simp; (try (simp (disch := omega) only [IntWalk.i64_in]; (try go_simp))); (try (split; (next => omega); (try go_simp))); try rfl; done))
  try simp only [Act.put, List.setIfInBounds_toArray, List.set_cons_zero, List.set_cons_succ, Nat.reduceAdd]
  ((refine reg_yes (i := 3) (oi := { dst := some 6, op := .load 46 (.tmp 5), type := 46, pos := "order.go:59", after := #[{ on := 2, ground := .data }], guard := none }) (v := ?_) rfl (by kernel_rfl) (by kernel_rfl) (by kernel_rfl) (fun _ _ _ h => h) rfl ?_ ?_); rotate_left; focus (intro W hW; (try dsimp only at hW); go_split_ands; go_simp; (try (simp (disch := omega) only [IntWalk.i64_in]; (try go_simp))); (try (split; (next => omega); (try go_simp))); try rfl; done))
  try simp only [Act.put, List.setIfInBounds_toArray, List.set_cons_zero, List.set_cons_succ, Nat.reduceAdd]
  ((refine reg_yes (i := 4) (oi := { dst := some 7, op := .move (.tmp 0), type := 25, pos := "order.go:59", after := #[], guard := none }) (v := ?_) rfl (by kernel_rfl) (by kernel_rfl) (by kernel_rfl) (fun _ _ _ h => h) rfl ?_ ?_); rotate_left; focus (intro W hW; (try dsimp only at hW); go_split_ands; go_simp; (try (simp (disch := omega) only [IntWalk.i64_in]; (try go_simp))); (try (split; (next => omega); (try go_simp))); try rfl; done))
  try simp only [Act.put, List.setIfInBounds_toArray, List.set_cons_zero, List.set_cons_succ, Nat.reduceAdd]
  ((refine reg_yes (i := 5) (oi := { dst := some 8, op := .nilCheck (.tmp 7), type := 0, pos := "order.go:59", after := #[{ on := 4, ground := .data }], guard := none }) (v := ?_) rfl (by kernel_rfl) (by kernel_rfl) (by kernel_rfl) (fun _ _ _ h => h) rfl ?_ ?_); rotate_left; focus (intro W hW; (try dsimp only at hW); go_split_ands; go_simp; (try (simp (disch := omega) only [IntWalk.i64_in]; (try go_simp))); (try (split; (next => omega); (try go_simp))); try rfl; done))
  try simp only [Act.put, List.setIfInBounds_toArray, List.set_cons_zero, List.set_cons_succ, Nat.reduceAdd]
  ((refine reg_yes (i := 6) (oi := { dst := some 9, op := .fieldAddr 122 (.tmp 8) 2, type := 0, pos := "order.go:59", after := #[{ on := 5, ground := .data }], guard := none }) (v := ?_) rfl (by kernel_rfl) (by kernel_rfl) (by kernel_rfl) (fun _ _ _ h => h) rfl ?_ ?_); rotate_left; focus (intro W hW; (try dsimp only at hW); go_split_ands; go_simp; (try (simp (disch := omega) only [IntWalk.i64_in]; (try go_simp))); (try (split; (next => omega); (try go_simp))); try rfl; done))
  try simp only [Act.put, List.setIfInBounds_toArray, List.set_cons_zero, List.set_cons_succ, Nat.reduceAdd]
  ((refine reg_yes (i := 7) (oi := { dst := some 10, op := .load 46 (.tmp 9), type := 46, pos := "order.go:59", after := #[{ on := 6, ground := .data }], guard := none }) (v := ?_) rfl (by kernel_rfl) (by kernel_rfl) (by kernel_rfl) (fun _ _ _ h => h) rfl ?_ ?_); rotate_left; focus (intro W hW; (try dsimp only at hW); go_split_ands; go_simp; (try (simp (disch := omega) only [IntWalk.i64_in]; (try go_simp))); (try (split; (next => omega); (try go_simp))); try rfl; done))
  try simp only [Act.put, List.setIfInBounds_toArray, List.set_cons_zero, List.set_cons_succ, Nat.reduceAdd]
  ((refine reg_yes (i := 8) (oi := { dst := some 11, op := .call { callee := .builtin .len, args := #[.tmp 10], argTypes := #[46] }, type := 3, pos := "order.go:59", after := #[{ on := 7, ground := .data }], guard := none }) (v := ?_) rfl (by kernel_rfl) (by kernel_rfl) (by kernel_rfl) (fun _ _ _ h => h) rfl ?_ ?_); rotate_left; focus (intro W hW; (try dsimp only at hW); go_split_ands; go_simp; (try (simp (disch := omega) only [IntWalk.i64_in]; (try go_simp))); (try (split; (next => omega); (try go_simp))); try rfl; done))
  try simp only [Act.put, List.setIfInBounds_toArray, List.set_cons_zero, List.set_cons_succ, Nat.reduceAdd]
  ((refine reg_yes (i := 9) (oi := { dst := some 12, op := .binOp .sub 3 (.tmp 11) (.const (.int .i64 1)) 3, type := 3, pos := "order.go:59", after := #[{ on := 8, ground := .data }], guard := none }) (v := ?_) rfl (by kernel_rfl) (by kernel_rfl) (by kernel_rfl) (fun _ _ _ h => h) rfl ?_ ?_); rotate_left; focus (intro W hW; (try dsimp only at hW); go_split_ands; go_simp; (try (simp (disch := omega) only [IntWalk.i64_in]; (try go_simp))); (try (split; (next => omega); (try go_simp))); try rfl; done))
  try simp only [Act.put, List.setIfInBounds_toArray, List.set_cons_zero, List.set_cons_succ, Nat.reduceAdd]
  ((refine reg_yes (i := 10) (oi := { dst := some 13, op := .indexAddr 46 (.tmp 6) (.tmp 12), type := 0, pos := "order.go:59", after := #[{ on := 3, ground := .data }, { on := 9, ground := .data }], guard := none }) (v := ?_) rfl (by kernel_rfl) (by kernel_rfl) (by kernel_rfl) (fun _ _ _ h => h) rfl ?_ ?_); rotate_left; focus (intro W hW; (try dsimp only at hW); go_split_ands; go_simp; (try (simp (disch := omega) only [IntWalk.i64_in]; (try go_simp))); (try (split; (next => omega); (try go_simp))); try rfl; done))
  try simp only [Act.put, List.setIfInBounds_toArray, List.set_cons_zero, List.set_cons_succ, Nat.reduceAdd]
  ((refine reg_yes (i := 11) (oi := { dst := some 14, op := .load 3 (.tmp 13), type := 3, pos := "order.go:59", after := #[{ on := 10, ground := .data }], guard := none }) (v := ?_) rfl (by kernel_rfl) (by kernel_rfl) (by kernel_rfl) (fun _ _ _ h => h) rfl ?_ ?_); rotate_left; focus (intro W hW; (try dsimp only at hW); go_split_ands; go_simp; (try (simp (disch := omega) only [IntWalk.i64_in]; (try go_simp))); (try (split; (next => omega); (try go_simp))); try rfl; done))
  try simp only [Act.put, List.setIfInBounds_toArray, List.set_cons_zero, List.set_cons_succ, Nat.reduceAdd]
  ((refine reg_yes (i := 12) (oi := { dst := some 2, op := .assign (.tmp 14), type := 3, pos := "order.go:59", after := #[{ on := 11, ground := .data }, { on := 0, ground := .phase }, { on := 1, ground := .phase }, { on := 2, ground := .phase }, { on := 3, ground := .phase }, { on := 4, ground := .phase }, { on := 5, ground := .phase }, { on := 6, ground := .phase }, { on := 7, ground := .phase }, { on := 8, ground := .phase }, { on := 9, ground := .phase }, { on := 10, ground := .phase }, { on := 11, ground := .phase }], guard := none }) (v := ?_) rfl (by kernel_rfl) (by kernel_rfl) (by kernel_rfl) (fun _ _ _ h => h) rfl ?_ ?_); rotate_left; focus (intro W hW; (try dsimp only at hW); go_split_ands; go_simp; (try (simp (disch := omega) only [IntWalk.i64_in]; (try go_simp))); (try (split; (next => omega); (try go_simp))); try rfl; done))
  try simp only [Act.put, List.setIfInBounds_toArray, List.set_cons_zero, List.set_cons_succ, Nat.reduceAdd]
  refine reg_done (by kernel_rfl) (show (fun W => W.cell? ⟨p, 2, none⟩ = some (.slice (some ⟨b, o, none⟩) (m + 1) c) ∧ W.cell? ⟨b, o + m, none⟩ = some (.int .i64 x)) w.drew from ⟨c2, ha0⟩) ?_
  go_wp2_with (with_reducible first | refine stop_append ?_ | refine stop_copy ?_ | refine stop_make ?_ | refine stop_lookup ?_ | refine stop_update ?_ | refine stop_slice ?_ | refine stop_range ?_ | refine stop_next ?_ | refine stop_convert ⟨_, rfl⟩ ?_ | refine stop_convertB ⟨_, _, _, rfl⟩ ?_ | refine stop_eqSlice ⟨_, _, rfl⟩ ?_)
  go_ret
  exact ⟨rfl, (Chg.refl No w).drew⟩
set_option maxRecDepth 100000 in
set_option maxHeartbeats 1000000 in
theorem oentries_any {sh lo hi p : Nat} {st : OSt} {w : World} (h : Ord w lo hi p st) (hI : Inv sh st) :
    Calls Try.prog 27 #[.pointer (some ⟨p, 0, none⟩)] w fun e w' => e = .returned (.int .i64 (st.after.length - 1)) ∧ w = w' := by
  obtain ⟨lv, rv, av, h⟩ := h
  have hm := hI.many
  obtain ⟨a, ha⟩ := hI.aft
  have hlen : st.after.length = a.length + 1 := by simp [ha]
  obtain ⟨A, c, rfl⟩ := h.ra.slice
  have c2 : w.cell? ⟨p, 2, none⟩ = some (.slice A st.after.length c) := cell_obj (i := 2) h.obj rfl
  rw [hlen] at c2 hm ⊢
  have Hm := Lib.hid (show (((a.length + 1 : Nat) : Int) - 1) = a.length by omega)
  rw [Hm.out]
  clear h hI ha hlen Hm
  generalize a.length = m at *
  go_enter Try.func27, Try.ntmps27
  go_wp2_with (with_reducible first | refine stop_append ?_ | refine stop_copy ?_ | refine stop_make ?_ | refine stop_lookup ?_ | refine stop_update ?_ | refine stop_slice ?_ | refine stop_range ?_ | refine stop_next ?_ | refine stop_convert ⟨_, rfl⟩ ?_ | refine stop_convertB ⟨_, _, _, rfl⟩ ?_ | refine stop_eqSlice ⟨_, _, rfl⟩ ?_)
  go_ret
  exact ⟨rfl, rfl⟩
end Go.Proofs.Ytbjpoamnglfjeaa


/- Walks of package order: At, with the library's search. -/
set_option linter.unusedVariables false
set_option linter.unusedSimpArgs false
namespace Go.Proofs.Ytbjpoamnglfjeaa
open Go.RowKit Cb

def SearchPost (n : Nat) (p : Nat → Bool) (w : World) (e : Ending) (w' : World) : Prop :=
  ∃ r : Nat, e = .returned (.int .i64 r) ∧ r ≤ n ∧ (∀ i, i + 1 = r → p i = false) ∧ (r < n → p r = true) ∧ Chg No w w'
set_option maxRecDepth 100000 in
set_option maxHeartbeats 1000000 in
theorem search_any (n : Nat) (hn : n ≤ 1000000) (p : Nat → Bool) (g : FuncId) (c1 c2 : Value) (hg : ∀ args W, (callFunc g args).run Try.prog W = .ok (.enter g args) W) (w : World)
    (hp : ∀ i, i < n → ∀ W, Chg No w W → Calls Try.prog g #[.int .i64 i, c1, c2] W fun e w' => e = .returned (.bool (p i)) ∧ Chg No W w') :
    Calls Try.prog 59 #[.int .i64 n, .func (.func g) #[] #[c1, c2]] w (SearchPost n p w) := by
  have Hp := Lib.hid hp
  clear hp
  go_enter Try.func59, Try.ntmps59
  go_wp2_with (with_reducible first | refine stop_append ?_ | refine stop_copy ?_ | refine stop_make ?_ | refine stop_lookup ?_ | refine stop_update ?_ | refine stop_slice ?_ | refine stop_range ?_ | refine stop_next ?_ | refine stop_convert ⟨_, rfl⟩ ?_ | refine stop_convertB ⟨_, _, _, rfl⟩ ?_ | refine stop_eqSlice ⟨_, _, rfl⟩ ?_)
  go_loopw [5, 6, 7] (fun v5 v6 _ wr => ∃ i j : Nat, i ≤ j ∧ j ≤ n ∧ v5 = .int .i64 i ∧ v6 = .int .i64 j ∧ Chg No w wr ∧ (∀ k, k + 1 = i → p k = false) ∧ (j < n → p j = true)) (fun v5 v6 _ _ => (intOf v6).toNat - (intOf v5).toNat)
  case atStart => exact ⟨0, n, by omega, by omega, rfl, rfl, Chg.refl _ _, fun _ h => by omega, fun h => by omega⟩
  case round =>
    obtain ⟨i, j, hij, hjn, rfl, rfl, hc, hlo, hhi⟩ := hrel
    have Hlo := Lib.hid hlo
    have Hhi := Lib.hid hhi
    clear hlo hhi
    by_cases hlt : i < j
    · obtain ⟨m, hm, hm1, hm2⟩ : ∃ m : Nat, ((i : Int) + j) / 2 = m ∧ i ≤ m ∧ m < j := ⟨(i + j) / 2, by omega, by omega, by omega⟩
      have Hcall := Lib.hid (Hp.out m (by omega) wr hc)
      have Hm := Lib.hid hm
      clear hm
      cases hpm : p m with
      | true =>
        have Hpm := Lib.hid hpm
        rw [hpm] at Hcall
        clear hpm
        go_wp2_with (with_reducible first | refine stop_append ?_ | refine stop_copy ?_ | refine stop_make ?_ | refine stop_lookup ?_ | refine stop_update ?_ | refine stop_slice ?_ | refine stop_range ?_ | refine stop_next ?_ | refine stop_convert ⟨_, rfl⟩ ?_ | refine stop_convertB ⟨_, _, _, rfl⟩ ?_ | refine stop_eqSlice ⟨_, _, rfl⟩ ?_)
        rw [Hm.out]
        refine Hcall.out.mono ?_
        rintro e w2 ⟨rfl, hc2⟩
        go_wp2_with (with_reducible first | refine stop_append ?_ | refine stop_copy ?_ | refine stop_make ?_ | refine stop_lookup ?_ | refine stop_update ?_ | refine stop_slice ?_ | refine stop_range ?_ | refine stop_next ?_ | refine stop_convert ⟨_, rfl⟩ ?_ | refine stop_convertB ⟨_, _, _, rfl⟩ ?_ | refine stop_eqSlice ⟨_, _, rfl⟩ ?_)
        go_roundw
        case rel => exact ⟨i, m, hm1, by omega, rfl, rfl, hc.trans hc2, Hlo.out, fun _ => Hpm.out⟩
        case measure => simp [intOf]; omega
      | false =>
        have Hpm := Lib.hid hpm
        rw [hpm] at Hcall
        clear hpm
        go_wp2_with (with_reducible first | refine stop_append ?_ | refine stop_copy ?_ | refine stop_make ?_ | refine stop_lookup ?_ | refine stop_update ?_ | refine stop_slice ?_ | refine stop_range ?_ | refine stop_next ?_ | refine stop_convert ⟨_, rfl⟩ ?_ | refine stop_convertB ⟨_, _, _, rfl⟩ ?_ | refine stop_eqSlice ⟨_, _, rfl⟩ ?_)
        rw [Hm.out]
        refine Hcall.out.mono ?_
        rintro e w2 ⟨rfl, hc2⟩
        go_wp2_with (with_reducible first | refine stop_append ?_ | refine stop_copy ?_ | refine stop_make ?_ | refine stop_lookup ?_ | refine stop_update ?_ | refine stop_slice ?_ | refine stop_range ?_ | refine stop_next ?_ | refine stop_convert ⟨_, rfl⟩ ?_ | refine stop_convertB ⟨_, _, _, rfl⟩ ?_ | refine stop_eqSlice ⟨_, _, rfl⟩ ?_)
        go_roundw
        case rel => exact ⟨m + 1, j, by omega, by omega, by go_num, rfl, hc.trans hc2, fun k hk => by
          obtain rfl : k = m := by omega
          exact Hpm.out, Hhi.out⟩
        case measure => simp [intOf]; omega
    · obtain rfl : i = j := by omega
      go_wp2_with (with_reducible first | refine stop_append ?_ | refine stop_copy ?_ | refine stop_make ?_ | refine stop_lookup ?_ | refine stop_update ?_ | refine stop_slice ?_ | refine stop_range ?_ | refine stop_next ?_ | refine stop_convert ⟨_, rfl⟩ ?_ | refine stop_convertB ⟨_, _, _, rfl⟩ ?_ | refine stop_eqSlice ⟨_, _, rfl⟩ ?_)
      go_ret
      exact ⟨_, rfl, hjn, Hlo.out, Hhi.out, hc⟩
def atF (st : OSt) (pos : Int) : Option (Int × Int) := if 0 ≤ pos ∧ pos < st.len then (rowF st)[pos.toNat]? else none
def AtPost (r : Option (Int × Int)) (w : World) (e : Ending) (w' : World) : Prop :=
  Chg No w w' ∧ ((∃ x, r = some x ∧ e = .returned (.tuple #[.agg #[.int .i64 x.1, .int .i64 x.2], .bool true])) ∨ (r = none ∧ e = .returned (.tuple #[.agg #[.int .i64 0, .int .i64 0], .bool false])))
set_option maxRecDepth 100000 in
set_option maxHeartbeats 1000000 in
theorem at1_any (p q2 q3 : Nat) (A : Option Addr) (c : Nat) (rs : List Rn) (F : Nat → Prop) (pos : Int) (w : World) (hl : rs.length ≤ 1000000) (hs : Sl F w (.slice A rs.length c) rs) (h2 : w.cell? ⟨q2, 0, none⟩ = some (.pointer (some ⟨p, 0, none⟩))) (h3 : w.cell? ⟨q3, 0, none⟩ = some (.int .i64 pos))
    (h1 : w.cell? ⟨p, 1, none⟩ = some (.slice A rs.length c)) (i : Nat) (hi : i < rs.length) :
    Calls Try.prog 60 #[.int .i64 i, .pointer (some ⟨q2, 0, none⟩), .pointer (some ⟨q3, 0, none⟩)] w fun e w' => e = .returned (.bool (decide (pos < (rs.getD i (0, (0, 0), 0)).1))) ∧ Chg No w w' := by
  obtain ⟨b, o, d, rfl, _, hbl, ⟨d1, d2, rfl, rfl, _⟩, ha⟩ := hs.get i hi
  have a0 := ha 0 _ rfl
  simp only [show Rep.n (Int × (Int × Int) × Int) = 4 from rfl, Nat.add_zero] at a0
  rw [show rs.getD i (0, (0, 0), 0) = rs[i] by simp [List.getD_eq_getElem?_getD, hi]]
  clear ha hs
  generalize rs[i].1 = x at a0 ⊢
  go_enter Try.func60, Try.ntmps60
  go_wp2_with (with_reducible first | refine stop_append ?_ | refine stop_copy ?_ | refine stop_make ?_ | refine stop_lookup ?_ | refine stop_update ?_ | refine stop_slice ?_ | refine stop_range ?_ | refine stop_next ?_ | refine stop_convert ⟨_, rfl⟩ ?_ | refine stop_convertB ⟨_, _, _, rfl⟩ ?_ | refine stop_eqSlice ⟨_, _, rfl⟩ ?_)
  refine reg_start (fun W => W.cell? ⟨q2, 0, none⟩ = some (.pointer (some ⟨p, 0, none⟩)) ∧ W.cell? ⟨q3, 0, none⟩ = some (.int .i64 pos) ∧ W.cell? ⟨p, 1, none⟩ = some (.slice (some ⟨b, o, none⟩) rs.length c) ∧ W.cell? ⟨b, o + i * 4, none⟩ = some (.int .i64 x)) (by kernel_rfl) ?_
  ((refine reg_yes (i := 0) (oi := { dst := some 5, op := .load 25 (.tmp 1), type := 25, pos := "order.go:109", after := #[], guard := none }) (v := ?_) rfl (by kernel_rfl) (by kernel_rfl) (by kernel_rfl) (fun _ _ _ h => h) rfl ?_ ?_); rotate_left; focus (intro W hW; (try dsimp only at hW); go_split_ands; go_simp; (try (simp (disch := omega) only [IntWalk.i64_in]; (try go_simp))); (try (split; (next => omega); (try go_simp))); try rfl; done))
  try simp only [Act.put, List.setIfInBounds_toArray, List.set_cons_zero, List.set_cons_succ, Nat.reduceAdd]
  ((refine reg_yes (i := 1) (oi := { dst := some 6, op := .nilCheck (.tmp 5), type := 0, pos := "order.go:109", after := #[{ on := 0, ground := .data }], guard := none }) (v := ?_) rfl (by kernel_rfl) (by kernel_rfl) (by kernel_rfl) (fun _ _ _ h => h) rfl ?_ ?_); rotate_left; focus (intro W hW; (try dsimp only at hW); go_split_ands; go_simp; (try (simp (disch := omega) only [IntWalk.i64_in]; (try go_simp))); (try (split; (next => omega); (try go_simp))); try rfl; done))
  try simp only [Act.put, List.setIfInBounds_toArray, List.set_cons_zero, List.set_cons_succ, Nat.reduceAdd]
  ((refine reg_yes (i := 2) (oi := { dst := some 7, op := .fieldAddr 122 (.tmp 6) 1, type := 0, pos := "order.go:109", after := #[{ on := 1, ground := .data }], guard := none }) (v := ?_) rfl (by kernel_rfl) (by kernel_rfl) (by kernel_rfl) (fun _ _ _ h => h) rfl ?_ ?_); rotate_left; focus (intro W hW; (try dsimp only at hW); go_split_ands; go_simp; (try (simp (disch := omega) only [IntWalk.i64_in]; (try go_simp))); (try (split; (next => omega); (try go_simp))); try rfl; done))
  try simp only [Act.put, List.setIfInBounds_toArray, List.set_cons_zero, List.set_cons_succ, Nat.reduceAdd]
  ((refine reg_yes (i := 3) (oi := { dst := some 8, op := .load 120 (.tmp 7), type := 120, pos := "order.go:109", after := #[{ on := 2, ground := .data }], guard := none }) (v := ?_) rfl (by kernel_rfl) (by kernel_rfl) (by kernel_rfl) (fun _ _ _ h => h) rfl ?_ ?_); rotate_left; focus (intro W hW; (try dsimp only at hW); go_split_ands; go_simp; (try (simp (disch := omega) only [IntWalk.i64_in]; (try go_simp))); (try (split; (next => omega); (try go_simp))); try rfl; done))
  try simp only [Act.put, List.setIfInBounds_toArray, List.set_cons_zero, List.set_cons_succ, Nat.reduceAdd]
  ((refine reg_yes (i := 4) (oi := { dst := some 9, op := .move (.tmp 0), type := 3, pos := "order.go:109", after := #[], guard := none }) (v := ?_) rfl (by kernel_rfl) (by kernel_rfl) (by kernel_rfl) (fun _ _ _ h => h) rfl ?_ ?_); rotate_left; focus (intro W hW; (try dsimp only at hW); go_split_ands; go_simp; (try (simp (disch := omega) only [IntWalk.i64_in]; (try go_simp))); (try (split; (next => omega); (try go_simp))); try rfl; done))
  try simp only [Act.put, List.setIfInBounds_toArray, List.set_cons_zero, List.set_cons_succ, Nat.reduceAdd]
  ((refine reg_yes (i := 5) (oi := { dst := some 10, op := .indexAddr 120 (.tmp 8) (.tmp 9), type := 0, pos := "order.go:109", after := #[{ on := 3, ground := .data }, { on := 4, ground := .data }], guard := none }) (v := ?_) rfl (by kernel_rfl) (by kernel_rfl) (by kernel_rfl) (fun _ _ _ h => h) rfl ?_ ?_); rotate_left; focus (intro W hW; (try dsimp only at hW); go_split_ands; go_simp; (try (simp (disch := omega) only [IntWalk.i64_in]; (try go_simp))); (try (split; (next => omega); (try go_simp))); try rfl; done))
  try simp only [Act.put, List.setIfInBounds_toArray, List.set_cons_zero, List.set_cons_succ, Nat.reduceAdd]
  ((refine reg_yes (i := 6) (oi := { dst := some 11, op := .fieldAddr 124 (.tmp 10) 0, type := 0, pos := "order.go:109", after := #[{ on := 5, ground := .data }], guard := none }) (v := ?_) rfl (by kernel_rfl) (by kernel_rfl) (by kernel_rfl) (fun _ _ _ h => h) rfl ?_ ?_); rotate_left; focus (intro W hW; (try dsimp only at hW); go_split_ands; go_simp; (try (simp (disch := omega) only [IntWalk.i64_in]; (try go_simp))); (try (split; (next => omega); (try go_simp))); try rfl; done))
  try simp only [Act.put, List.setIfInBounds_toArray, List.set_cons_zero, List.set_cons_succ, Nat.reduceAdd]
  ((refine reg_yes (i := 7) (oi := { dst := some 12, op := .load 3 (.tmp 11), type := 3, pos := "order.go:109", after := #[{ on := 6, ground := .data }], guard := none }) (v := ?_) rfl (by kernel_rfl) (by kernel_rfl) (by kernel_rfl) (fun _ _ _ h => h) rfl ?_ ?_); rotate_left; focus (intro W hW; (try dsimp only at hW); go_split_ands; go_simp; (try (simp (disch := omega) only [IntWalk.i64_in]; (try go_simp))); (try (split; (next => omega); (try go_simp))); try rfl; done))
  try simp only [Act.put, List.setIfInBounds_toArray, List.set_cons_zero, List.set_cons_succ, Nat.reduceAdd]
  ((refine reg_yes (i := 8) (oi := { dst := some 13, op := .load 3 (.tmp 2), type := 3, pos := "order.go:109", after := #[], guard := none }) (v := ?_) rfl (by kernel_rfl) (by kernel_rfl) (by kernel_rfl) (fun _ _ _ h => h) rfl ?_ ?_); rotate_left; focus (intro W hW; (try dsimp only at hW); go_split_ands; go_simp; (try (simp (disch := omega) only [IntWalk.i64_in]; (try go_simp))); (try (split; (next => omega); (try go_simp))); try rfl; done))
  try simp only [Act.put, List.setIfInBounds_toArray, List.set_cons_zero, List.set_cons_succ, Nat.reduceAdd]
  ((refine reg_yes (i := 9) (oi := { dst := some 14, op := .binOp .gtr 3 (.tmp 12) (.tmp 13) 3, type := 4, pos := "order.go:109", after := #[{ on := 7, ground := .data }, { on := 8, ground := .data }], guard := none }) (v := ?_) rfl (by kernel_rfl) (by kernel_rfl) (by kernel_rfl) (fun _ _ _ h => h) rfl ?_ ?_); rotate_left; focus (intro W hW; (try dsimp only at hW); go_split_ands; go_simp; (try (simp (disch := omega) only [IntWalk.i64_in]; (try go_simp))); (try (split; (next => omega); (try go_simp))); try rfl; done))
  try simp only [Act.put, List.setIfInBounds_toArray, List.set_cons_zero, List.set_cons_succ, Nat.reduceAdd]
  ((refine reg_yes (i := 10) (oi := { dst := some 4, op := .assign (.tmp 14), type := 4, pos := "order.go:109", after := #[{ on := 9, ground := .data }, { on := 0, ground := .phase }, { on := 1, ground := .phase }, { on := 2, ground := .phase }, { on := 3, ground := .phase }, { on := 4, ground := .phase }, { on := 5, ground := .phase }, { on := 6, ground := .phase }, { on := 7, ground := .phase }, { on := 8, ground := .phase }, { on := 9, ground := .phase }], guard := none }) (v := ?_) rfl (by kernel_rfl) (by kernel_rfl) (by kernel_rfl) (fun _ _ _ h => h) rfl ?_ ?_); rotate_left; focus (intro W hW; (try dsimp only at hW); go_split_ands; go_simp; (try (simp (disch := omega) only [IntWalk.i64_in]; (try go_simp))); (try (split; (next => omega); (try go_simp))); try rfl; done))
  try simp only [Act.put, List.setIfInBounds_toArray, List.set_cons_zero, List.set_cons_succ, Nat.reduceAdd]
  refine reg_done (by kernel_rfl) (show (fun W => W.cell? ⟨q2, 0, none⟩ = some (.pointer (some ⟨p, 0, none⟩)) ∧ W.cell? ⟨q3, 0, none⟩ = some (.int .i64 pos) ∧ W.cell? ⟨p, 1, none⟩ = some (.slice (some ⟨b, o, none⟩) rs.length c) ∧ W.cell? ⟨b, o + i * 4, none⟩ = some (.int .i64 x)) w.drew from ⟨h2, h3, h1, a0⟩) ?_
  go_wp2_with (with_reducible first | refine stop_append ?_ | refine stop_copy ?_ | refine stop_make ?_ | refine stop_lookup ?_ | refine stop_update ?_ | refine stop_slice ?_ | refine stop_range ?_ | refine stop_next ?_ | refine stop_convert ⟨_, rfl⟩ ?_ | refine stop_convertB ⟨_, _, _, rfl⟩ ?_ | refine stop_eqSlice ⟨_, _, rfl⟩ ?_)
  go_ret
  exact ⟨rfl, (Chg.refl No w).drew⟩
set_option maxRecDepth 100000 in
set_option maxHeartbeats 1000000 in
theorem at_any {sh lo hi p : Nat} {st : OSt} {w : World} (h : Ord w lo hi p st) (hI : Inv sh st) (pos : Int) :
    Calls Try.prog 21 #[.pointer (some ⟨p, 0, none⟩), .int .i64 pos] w (AtPost (atF st pos) w) := by
  have hlen := Lib.hid (fun W hW => olen_any (h.keepNo (w' := W) hW) hI)
  have hpl : p < w.heap.size := by obtain ⟨lv, rv, av, h⟩ := h; exact lt_of_heap h.obj
  have hc3 : Chg No w (((w.alloc (.cells #[.pointer (some ⟨p, 0, none⟩)] 25)).alloc (.cells #[.int .i64 pos] 3)).alloc (.cells #[.int .i64 0, .int .i64 0] 36)) := (((Chg.refl No w).alloc _).alloc _).alloc _
  have o2 : (((w.alloc (.cells #[.pointer (some ⟨p, 0, none⟩)] 25)).alloc (.cells #[.int .i64 pos] 3)).alloc (.cells #[.int .i64 0, .int .i64 0] 36)).heap[w.heap.size]? = some (.cells #[.pointer (some ⟨p, 0, none⟩)] 25 (0, 0)) :=
    (((Chg.refl No _).alloc _).alloc _).obj (alloc_obj w _) (not_no _)
  have o3 : (((w.alloc (.cells #[.pointer (some ⟨p, 0, none⟩)] 25)).alloc (.cells #[.int .i64 pos] 3)).alloc (.cells #[.int .i64 0, .int .i64 0] 36)).heap[w.heap.size + 1]? = some (.cells #[.int .i64 pos] 3 (0, 0)) := by
    have := alloc_obj (w.alloc (.cells #[.pointer (some ⟨p, 0, none⟩)] 25)) (.cells #[.int .i64 pos] 3)
    rw [World.size_alloc] at this
    exact ((Chg.refl No _).alloc _).obj this (not_no _)
  have o4 : (((w.alloc (.cells #[.pointer (some ⟨p, 0, none⟩)] 25)).alloc (.cells #[.int .i64 pos] 3)).alloc (.cells #[.int .i64 0, .int .i64 0] 36)).heap[w.heap.size + 1 + 1]? = some (.cells #[.int .i64 0, .int .i64 0] 36 (0, 0)) := by
    have := alloc_obj ((w.alloc (.cells #[.pointer (some ⟨p, 0, none⟩)] 25)).alloc (.cells #[.int .i64 pos] 3)) (.cells #[.int .i64 0, .int .i64 0] 36)
    rw [World.size_alloc, World.size_alloc] at this
    exact this
  have hq : w.heap.size ≤ w.heap.size ∧ w.heap.size < w.heap.size + 1 ∧ w.heap.size + 1 < w.heap.size + 1 + 1 := ⟨Nat.le_refl _, by omega, by omega⟩
  have hwe : ∀ (W : World) (x : Value), w.heap.size ≤ W.heap.size → True := fun _ _ _ => trivial
  have hAll : (pos < 0 ∧ atF st pos = none) ∨ (0 ≤ pos ∧ st.len ≤ pos ∧ atF st pos = none) ∨ (0 ≤ pos ∧ pos < st.len) := by
    by_cases h0 : pos < 0
    · exact .inl ⟨h0, by simp [atF]; omega⟩
    · by_cases h1 : st.len ≤ pos
      · exact .inr (.inl ⟨by omega, h1, by simp [atF]; omega⟩)
      · exact .inr (.inr ⟨by omega, by omega⟩)
  rcases hAll with ⟨h0, H⟩ | ⟨h0, h1, H⟩ | ⟨h0, h1⟩
  · have H := Lib.hid H
    clear h hlen hwe
    go_enter Try.func21, Try.ntmps21
    go_wp2_with (with_reducible first | refine stop_append ?_ | refine stop_copy ?_ | refine stop_make ?_ | refine stop_lookup ?_ | refine stop_update ?_ | refine stop_slice ?_ | refine stop_range ?_ | refine stop_next ?_ | refine stop_convert ⟨_, rfl⟩ ?_ | refine stop_convertB ⟨_, _, _, rfl⟩ ?_ | refine stop_eqSlice ⟨_, _, rfl⟩ ?_)
    generalize ((w.alloc (.cells #[.pointer (some ⟨p, 0, none⟩)] 25)).alloc (.cells #[.int .i64 pos] 3)).alloc (.cells #[.int .i64 0, .int .i64 0] 36) = w0 at *
    generalize hq4 : w.heap.size + 1 + 1 = q4 at *
    generalize hq3 : w.heap.size + 1 = q3 at *
    generalize hq2 : w.heap.size = q2 at *
    have c2 : w0.cell? ⟨q2, 0, none⟩ = some (.pointer (some ⟨p, 0, none⟩)) := cell_obj (i := 0) o2 rfl
    have c3 : w0.cell? ⟨q3, 0, none⟩ = some (.int .i64 pos) := cell_obj (i := 0) o3 rfl
    have hA : ∀ i, At q4 i → w.heap.size ≤ i := fun i h => by simp only [At] at h; omega
    clear o2 o3
    refine pl_start (fun W => W.cell? ⟨q2, 0, none⟩ = some (.pointer (some ⟨p, 0, none⟩)) ∧ W.cell? ⟨q3, 0, none⟩ = some (.int .i64 pos) ∧ Chg No w0 W) (by kernel_rfl) (by kernel_rfl) ⟨c2, c3, (Chg.refl No w0).drew⟩ ?_
    iterate 3 ((refine pl_nx [] (v := ?_) rfl (by kernel_rfl) rfl ?_ ?_; rotate_left; focus (intro W hW; (try dsimp only at hW); go_split_ands; go_simp; (try (simp (disch := omega) only [IntWalk.i64_in]; (try go_simp))); (try (split; (next => omega); (try go_simp))); try rfl; done)); try simp only [Act.put, List.setIfInBounds_toArray, List.set_cons_zero, List.set_cons_succ, Nat.reduceAdd])
    iterate 2 ((first | (refine pl_nn [] rfl (by kernel_rfl) rfl ?_) | (refine pl_nx [] (v := ?_) rfl (by kernel_rfl) rfl ?_ ?_; rotate_left; focus (intro W hW; (try dsimp only at hW); go_split_ands; go_simp; (try (simp (disch := omega) only [IntWalk.i64_in]; (try go_simp))); (try (split; (next => omega); (try go_simp))); try rfl; done))); try simp only [Act.put, List.setIfInBounds_toArray, List.set_cons_zero, List.set_cons_succ, Nat.reduceAdd])
    refine pl_nox 5 (by kernel_rfl) rfl rfl ?_
    try simp only [Act.put, List.setIfInBounds_toArray, List.set_cons_zero, List.set_cons_succ, Nat.reduceAdd]
    ((first | (refine pl_nn [] rfl (by kernel_rfl) rfl ?_) | (refine pl_nx [] (v := ?_) rfl (by kernel_rfl) rfl ?_ ?_; rotate_left; focus (intro W hW; (try dsimp only at hW); go_split_ands; go_simp; (try (simp (disch := omega) only [IntWalk.i64_in]; (try go_simp))); (try (split; (next => omega); (try go_simp))); try rfl; done))); try simp only [Act.put, List.setIfInBounds_toArray, List.set_cons_zero, List.set_cons_succ, Nat.reduceAdd])
    ((refine pl_nx [] (v := ?_) rfl (by kernel_rfl) rfl ?_ ?_; rotate_left; focus (intro W hW; (try dsimp only at hW); go_split_ands; go_simp; (try (simp (disch := omega) only [IntWalk.i64_in]; (try go_simp))); (try (split; (next => omega); (try go_simp))); try rfl; done)); try simp only [Act.put, List.setIfInBounds_toArray, List.set_cons_zero, List.set_cons_succ, Nat.reduceAdd])
    refine pl_done (by kernel_rfl)  ?_
    rintro w1 ⟨_, _, hc1⟩
    have o4 := hc1.obj o4 (not_no _)
    have f0 := free_obj (i := 0) o4
    have f1 := free_obj (i := 1) o4
    have b0 : w1.cell? ⟨q4, 0, none⟩ = some (.int .i64 0) := cell_obj (i := 0) o4 rfl
    have b1 : w1.cell? ⟨q4, 1, none⟩ = some (.int .i64 0) := cell_obj (i := 1) o4 rfl
    go_wp2_with (with_reducible first | refine stop_append ?_ | refine stop_copy ?_ | refine stop_make ?_ | refine stop_lookup ?_ | refine stop_update ?_ | refine stop_slice ?_ | refine stop_range ?_ | refine stop_next ?_ | refine stop_convert ⟨_, rfl⟩ ?_ | refine stop_convertB ⟨_, _, _, rfl⟩ ?_ | refine stop_eqSlice ⟨_, _, rfl⟩ ?_)
    refine bodyPost_ret (v := .tuple #[.agg #[.int .i64 0, .int .i64 0], .bool false]) (by simp [results, Try.results21, go_sem, *]) rfl ?_
    rw [H.out]
    exact ⟨((hc3.trans hc1).old (chg_set _) hA).old (chg_set _) hA, .inr ⟨rfl, rfl⟩⟩
  · have H := Lib.hid H
    have Hd0 := Lib.hid (show decide (pos < 0) = false by simp; omega)
    clear h hwe
    have Hlen := Lib.hid (fun W hW => hlen.out W hW)
    generalize hsl : st.len = n at Hlen h1
    clear hsl hlen
    go_enter Try.func21, Try.ntmps21
    go_wp2_with (with_reducible first | refine stop_append ?_ | refine stop_copy ?_ | refine stop_make ?_ | refine stop_lookup ?_ | refine stop_update ?_ | refine stop_slice ?_ | refine stop_range ?_ | refine stop_next ?_ | refine stop_convert ⟨_, rfl⟩ ?_ | refine stop_convertB ⟨_, _, _, rfl⟩ ?_ | refine stop_eqSlice ⟨_, _, rfl⟩ ?_)
    generalize ((w.alloc (.cells #[.pointer (some ⟨p, 0, none⟩)] 25)).alloc (.cells #[.int .i64 pos] 3)).alloc (.cells #[.int .i64 0, .int .i64 0] 36) = w0 at *
    generalize hq4 : w.heap.size + 1 + 1 = q4 at *
    generalize hq3 : w.heap.size + 1 = q3 at *
    generalize hq2 : w.heap.size = q2 at *
    have hA : ∀ i, At q4 i → w.heap.size ≤ i := fun i h => by simp only [At] at h; omega
    have c2 : w0.cell? ⟨q2, 0, none⟩ = some (.pointer (some ⟨p, 0, none⟩)) := cell_obj (i := 0) o2 rfl
    have c3 : w0.cell? ⟨q3, 0, none⟩ = some (.int .i64 pos) := cell_obj (i := 0) o3 rfl
    clear o2 o3
    refine pl_start (fun W => W.cell? ⟨q2, 0, none⟩ = some (.pointer (some ⟨p, 0, none⟩)) ∧ W.cell? ⟨q3, 0, none⟩ = some (.int .i64 pos) ∧ Chg No w0 W) (by kernel_rfl) (by kernel_rfl) ⟨c2, c3, (Chg.refl No w0).drew⟩ ?_
    iterate 3 ((refine pl_nx [3, 4] (v := ?_) rfl (by kernel_rfl) rfl ?_ ?_; rotate_left; focus (intro W hW; (try dsimp only at hW); go_split_ands; go_simp; (try (simp (disch := omega) only [IntWalk.i64_in]; (try go_simp))); (try (split; (next => omega); (try go_simp))); try rfl; done)); try simp only [Act.put, List.setIfInBounds_toArray, List.set_cons_zero, List.set_cons_succ, Nat.reduceAdd])
    rw [Hd0.out]
    iterate 2 ((first | (refine pl_nn [] rfl (by kernel_rfl) rfl ?_) | (refine pl_nx [] (v := ?_) rfl (by kernel_rfl) rfl ?_ ?_; rotate_left; focus (intro W hW; (try dsimp only at hW); go_split_ands; go_simp; (try (simp (disch := omega) only [IntWalk.i64_in]; (try go_simp))); (try (split; (next => omega); (try go_simp))); try rfl; done))); try simp only [Act.put, List.setIfInBounds_toArray, List.set_cons_zero, List.set_cons_succ, Nat.reduceAdd])
    refine pl_callx 5 (.int .i64 n) rfl (by kernel_rfl) rfl (by exact (fun W hW => (Hlen.out W (hc3.trans hW.2.2)).mono fun e w' h => ⟨h.1, h.2.cell hW.1 (not_no _), h.2.cell hW.2.1 (not_no _), hW.2.2.trans h.2⟩)) (fun W => by kernel_rfl) ?_
    try simp only [Act.put, List.setIfInBounds_toArray, List.set_cons_zero, List.set_cons_succ, Nat.reduceAdd]
    ((first | (refine pl_nn [] rfl (by kernel_rfl) rfl ?_) | (refine pl_nx [] (v := ?_) rfl (by kernel_rfl) rfl ?_ ?_; rotate_left; focus (intro W hW; (try dsimp only at hW); go_split_ands; go_simp; (try (simp (disch := omega) only [IntWalk.i64_in]; (try go_simp))); (try (split; (next => omega); (try go_simp))); try rfl; done))); try simp only [Act.put, List.setIfInBounds_toArray, List.set_cons_zero, List.set_cons_succ, Nat.reduceAdd])
    ((refine pl_nx [] (v := ?_) rfl (by kernel_rfl) rfl ?_ ?_; rotate_left; focus (intro W hW; (try dsimp only at hW); go_split_ands; go_simp; (try (simp (disch := omega) only [IntWalk.i64_in]; (try go_simp))); (try (split; (next => omega); (try go_simp))); try rfl; done)); try simp only [Act.put, List.setIfInBounds_toArray, List.set_cons_zero, List.set_cons_succ, Nat.reduceAdd])
    refine pl_done (by kernel_rfl)  ?_
    rintro w1 ⟨_, _, hc1⟩
    have o4 := hc1.obj o4 (not_no _)
    have f0 := free_obj (i := 0) o4
    have f1 := free_obj (i := 1) o4
    have b0 : w1.cell? ⟨q4, 0, none⟩ = some (.int .i64 0) := cell_obj (i := 0) o4 rfl
    have b1 : w1.cell? ⟨q4, 1, none⟩ = some (.int .i64 0) := cell_obj (i := 1) o4 rfl
    go_wp2_with (with_reducible first | refine stop_append ?_ | refine stop_copy ?_ | refine stop_make ?_ | refine stop_lookup ?_ | refine stop_update ?_ | refine stop_slice ?_ | refine stop_range ?_ | refine stop_next ?_ | refine stop_convert ⟨_, rfl⟩ ?_ | refine stop_convertB ⟨_, _, _, rfl⟩ ?_ | refine stop_eqSlice ⟨_, _, rfl⟩ ?_)
    refine bodyPost_ret (v := .tuple #[.agg #[.int .i64 0, .int .i64 0], .bool false]) (by simp [results, Try.results21, go_sem, *]) rfl ?_
    rw [H.out]
    exact ⟨((hc3.trans hc1).old (chg_set _) hA).old (chg_set _) hA, .inr ⟨rfl, rfl⟩⟩
  · have Hd0 := Lib.hid (show decide (pos < 0) = false by simp; omega)
    have Hlen := Lib.hid (fun W hW => hlen.out W hW)
    have hcon := hI.contig
    have hmany := hI.runsLen
    have htot := hI.tot
    have hat := Lib.hid (show atF st pos = (rowF st)[pos.toNat]? by simp only [atF]; rw [if_pos ⟨h0, h1⟩])
    have hrow : rowF st = st.runs.flatMap expand := rfl
    rw [hrow] at hat
    have hloc := hI.loc
    rw [hI.olen] at h1 Hlen
    have h1' := h1
    obtain ⟨lv, rv, av, h⟩ := h
    have hs := h.rr.sl
    obtain ⟨A, c, rfl⟩ := hs.slice
    have cp : w.cell? ⟨p, 1, none⟩ = some (.slice A st.runs.length c) := cell_obj (i := 1) h.obj rfl
    have cp := hc3.cell cp (not_no _)
    have Hs := Lib.hid (hs.keepNo hc3)
    have Hcon := Lib.hid hcon
    have Hloc := Lib.hid hloc
    clear h hwe hlen hs hI hrow hcon hloc
    generalize st.last.sum = n at Hlen h1 Hcon htot
    generalize st.runs = rs at *
    go_enter Try.func21, Try.ntmps21
    go_wp2_with (with_reducible first | refine stop_append ?_ | refine stop_copy ?_ | refine stop_make ?_ | refine stop_lookup ?_ | refine stop_update ?_ | refine stop_slice ?_ | refine stop_range ?_ | refine stop_next ?_ | refine stop_convert ⟨_, rfl⟩ ?_ | refine stop_convertB ⟨_, _, _, rfl⟩ ?_ | refine stop_eqSlice ⟨_, _, rfl⟩ ?_)
    generalize ((w.alloc (.cells #[.pointer (some ⟨p, 0, none⟩)] 25)).alloc (.cells #[.int .i64 pos] 3)).alloc (.cells #[.int .i64 0, .int .i64 0] 36) = w0 at *
    generalize hq4 : w.heap.size + 1 + 1 = q4 at *
    generalize hq3 : w.heap.size + 1 = q3 at *
    generalize hq2 : w.heap.size = q2 at *
    have hA : ∀ i, At q4 i → w.heap.size ≤ i := fun i h => by simp only [At] at h; omega
    have c2 : w0.cell? ⟨q2, 0, none⟩ = some (.pointer (some ⟨p, 0, none⟩)) := cell_obj (i := 0) o2 rfl
    have c3 : w0.cell? ⟨q3, 0, none⟩ = some (.int .i64 pos) := cell_obj (i := 0) o3 rfl
    clear o2 o3
    refine pl_start (fun W => W.cell? ⟨q2, 0, none⟩ = some (.pointer (some ⟨p, 0, none⟩)) ∧ W.cell? ⟨q3, 0, none⟩ = some (.int .i64 pos) ∧ Chg No w0 W) (by kernel_rfl) (by kernel_rfl) ⟨c2, c3, (Chg.refl No w0).drew⟩ ?_
    iterate 3 ((refine pl_nx [3, 4] (v := ?_) rfl (by kernel_rfl) rfl ?_ ?_; rotate_left; focus (intro W hW; (try dsimp only at hW); go_split_ands; go_simp; (try (simp (disch := omega) only [IntWalk.i64_in]; (try go_simp))); (try (split; (next => omega); (try go_simp))); try rfl; done)); try simp only [Act.put, List.setIfInBounds_toArray, List.set_cons_zero, List.set_cons_succ, Nat.reduceAdd])
    rw [Hd0.out]
    iterate 2 ((first | (refine pl_nn [] rfl (by kernel_rfl) rfl ?_) | (refine pl_nx [] (v := ?_) rfl (by kernel_rfl) rfl ?_ ?_; rotate_left; focus (intro W hW; (try dsimp only at hW); go_split_ands; go_simp; (try (simp (disch := omega) only [IntWalk.i64_in]; (try go_simp))); (try (split; (next => omega); (try go_simp))); try rfl; done))); try simp only [Act.put, List.setIfInBounds_toArray, List.set_cons_zero, List.set_cons_succ, Nat.reduceAdd])
    refine pl_callx 5 (.int .i64 n) rfl (by kernel_rfl) rfl (by exact (fun W hW => (Hlen.out W (hc3.trans hW.2.2)).mono fun e w' h => ⟨h.1, h.2.cell hW.1 (not_no _), h.2.cell hW.2.1 (not_no _), hW.2.2.trans h.2⟩)) (fun W => by kernel_rfl) ?_
    try simp only [Act.put, List.setIfInBounds_toArray, List.set_cons_zero, List.set_cons_succ, Nat.reduceAdd]
    ((first | (refine pl_nn [] rfl (by kernel_rfl) rfl ?_) | (refine pl_nx [] (v := ?_) rfl (by kernel_rfl) rfl ?_ ?_; rotate_left; focus (intro W hW; (try dsimp only at hW); go_split_ands; go_simp; (try (simp (disch := omega) only [IntWalk.i64_in]; (try go_simp))); (try (split; (next => omega); (try go_simp))); try rfl; done))); try simp only [Act.put, List.setIfInBounds_toArray, List.set_cons_zero, List.set_cons_succ, Nat.reduceAdd])
    ((refine pl_nx [] (v := ?_) rfl (by kernel_rfl) rfl ?_ ?_; rotate_left; focus (intro W hW; (try dsimp only at hW); go_split_ands; go_simp; (try (simp (disch := omega) only [IntWalk.i64_in]; (try go_simp))); (try (split; (next => omega); (try go_simp))); try rfl; done)); try simp only [Act.put, List.setIfInBounds_toArray, List.set_cons_zero, List.set_cons_succ, Nat.reduceAdd])
    refine pl_done (by kernel_rfl)  ?_
    rintro w1 ⟨c2, c3, hc1⟩
    have cp1 := hc1.cell cp (not_no _)
    have o4 := hc1.obj o4 (not_no _)
    have Hs1 := Lib.hid (Hs.out.keepNo hc1)
    clear Hs cp Hlen
    go_wp2_with (with_reducible first | refine stop_append ?_ | refine stop_copy ?_ | refine stop_make ?_ | refine stop_lookup ?_ | refine stop_update ?_ | refine stop_slice ?_ | refine stop_range ?_ | refine stop_next ?_ | refine stop_convert ⟨_, rfl⟩ ?_ | refine stop_convertB ⟨_, _, _, rfl⟩ ?_ | refine stop_eqSlice ⟨_, _, rfl⟩ ?_)
    refine (search_any rs.length hmany (fun i => decide (pos < (rs.getD i (0, (0, 0), 0)).1)) 60 _ _ (fun args W => by kernel_rfl) w1 (fun i hi W hW => at1_any p q2 q3 A c rs _ pos W hmany (Hs1.out.keepNo hW) (hW.cell c2 (not_no _)) (hW.cell c3 (not_no _)) (hW.cell cp1 (not_no _)) i hi)).mono ?_
    rintro e w2 ⟨r, rfl, hr, hlo, hhi, hc2⟩
    obtain ⟨hr1, hrl, hb1, hb2, hb3⟩ := at_of Hcon.out h0 h1 hr (fun i hi hir => by
      have := hlo i hir
      simpa [List.getD_eq_getElem?_getD, hi] using this) (fun hlt => by
      have := hhi hlt
      simpa [List.getD_eq_getElem?_getD, hlt] using this)
    obtain ⟨m, rfl⟩ : ∃ m, r = m + 1 := ⟨r - 1, by omega⟩
    simp only [Nat.add_sub_cancel] at hrl hb1 hb2 hb3
    have hlc := Hloc.out _ (List.getElem_mem hrl)
    obtain ⟨b, o, d, rfl, _, hbl, ⟨d1, d2, rfl, rfl, ⟨d3, d4, rfl, ⟨d5, d6, rfl, rfl, rfl⟩, rfl⟩⟩, ha⟩ := (Hs1.out.keepNo hc2).get m hrl
    rw [hb3] at hat
    generalize rs[m] = x at ha hb1 hb2 hat hlc
    obtain ⟨px, ⟨sx, lx⟩, mx⟩ := x
    simp only at hb1 hb2 ha hat hlc
    have a0 := ha 0 _ rfl
    have a1 := ha 1 _ rfl
    have a2 := ha 2 _ rfl
    have a3 := ha 3 _ rfl
    simp only [show Rep.n (Int × (Int × Int) × Int) = 4 from rfl, Nat.add_zero] at a0 a1 a2 a3
    clear ha hb3 hlo hhi
    have c2 := hc2.cell c2 (not_no _)
    have c3 := hc2.cell c3 (not_no _)
    have cp2 := hc2.cell cp1 (not_no _)
    have o4 := hc2.obj o4 (not_no _)
    have hca := (Chg.refl No w2).alloc (.cells #[.int .i64 px, .int .i64 sx, .int .i64 lx, .int .i64 mx] 124)
    have k3 := hca.cell c3 (not_no _)
    have o4a := hca.obj o4 (not_no _)
    have f0 := free_obj (i := 0) o4a
    have f1 := free_obj (i := 1) o4a
    have b0 := cell_obj (i := 0) o4a (u := .int .i64 0) rfl
    have b1 := cell_obj (i := 1) o4a (u := .int .i64 0) rfl
    have hl4 : q4 ≠ w2.heap.size := fun e => by have := lt_of_heap o4; omega
    have hl3 : q3 ≠ w2.heap.size := fun e => by have := lt_of_heap o4; omega
    have hw1 : IntKind.i64.wrap (lx + pos) = lx + pos := IntWalk.i64_in _ (by omega)
    have hw2 : IntKind.i64.wrap (lx + pos - px) = lx + pos - px := IntWalk.i64_in _ (by omega)
    have hmr : (m : Int) < rs.length := by omega
    have hcw := ((hc3.trans hc1).trans hc2).trans hca
    clear o4 o4a
    go_wp2_with (with_reducible first | refine stop_append ?_ | refine stop_copy ?_ | refine stop_make ?_ | refine stop_lookup ?_ | refine stop_update ?_ | refine stop_slice ?_ | refine stop_range ?_ | refine stop_next ?_ | refine stop_convert ⟨_, rfl⟩ ?_ | refine stop_convertB ⟨_, _, _, rfl⟩ ?_ | refine stop_eqSlice ⟨_, _, rfl⟩ ?_)
    refine bodyPost_ret (v := .tuple #[.agg #[.int .i64 sx, .int .i64 (lx + pos - px)], .bool true]) (by simp [results, Try.results21, go_sem, *]) rfl ?_
    rw [hat.out]
    exact ⟨(hcw.old (chg_set _) hA).old (chg_set _) hA, .inl ⟨_, rfl, rfl⟩⟩
end Go.Proofs.Ytbjpoamnglfjeaa


/- Texts VecA, EntA, Mor, OrdE, Map, TerA, TerB, RegF, RegG. -/
import Derived.Test.YticimjplegbagaaMg4
import Derived.Test.YticimjplegbagaaProg
import Derived.Lib.Hide
import Derived.Tactics
import Derived.WalkKit
import Derived.KernelRfl
import Derived.RowKit3
import Derived.Outline
import Derived.BigQuiet
import Derived.Laws.Cover3
import Derived.Laws.BitsAllLaws
/- Walks of package vector, and of the library's functions on rows of numbers: may, Right, kind, both, Max, Covers, Total, Zero, Clone, Equal. -/
set_option linter.unusedVariables false
set_option linter.unusedSimpArgs false
namespace Go.Proofs.Yticimjplegbagaa
open Go.RowKit Cb

theorem vmay_any (n : Int) (w : World) : Calls Try.prog 77 #[.int .i64 n] w fun e w' => e = .returned (.bool (mayB n)) ∧ w = w' := by
  have hd : ∀ b, mayB n = b → Hid (mayB n = b) := fun _ h => h
  by_cases h : 0 ≤ n
  · have H := hd _ (by rw [mayB, decide_eq_true h, Bool.true_and])
    go_enter Try.func77, Try.ntmps77
    go_wp2
    go_ret
    rw [H.out]; exact ⟨rfl, rfl⟩
  · have H := hd _ (by rw [mayB, decide_eq_false h, Bool.false_and])
    go_enter Try.func77, Try.ntmps77
    go_wp2
    go_ret
    rw [H.out]; exact ⟨rfl, rfl⟩
theorem vright1_any (n : Int) (w : World) : Calls Try.prog 76 #[.int .i64 n] w fun e w' => e = .returned (.bool (!mayB n)) ∧ Chg No w w' := by
  have hcall := Lib.hid (vmay_any n w)
  generalize mayB n = b at hcall ⊢
  go_enter Try.func76, Try.ntmps76
  go_wp2_with (with_reducible first | refine stop_append ?_ | refine stop_copy ?_ | refine stop_make ?_ | refine stop_lookup ?_ | refine stop_update ?_ | refine stop_slice ?_ | refine stop_range ?_ | refine stop_next ?_ | refine stop_convert ⟨_, rfl⟩ ?_ | refine stop_convertB ⟨_, _, _, rfl⟩ ?_ | refine stop_eqSlice ⟨_, _, rfl⟩ ?_)
  refine hcall.out.mono ?_
  rintro e w1 ⟨rfl, rfl⟩
  go_wp2_with (with_reducible first | refine stop_append ?_ | refine stop_copy ?_ | refine stop_make ?_ | refine stop_lookup ?_ | refine stop_update ?_ | refine stop_slice ?_ | refine stop_range ?_ | refine stop_next ?_ | refine stop_convert ⟨_, rfl⟩ ?_ | refine stop_convertB ⟨_, _, _, rfl⟩ ?_ | refine stop_eqSlice ⟨_, _, rfl⟩ ?_)
  go_ret
  exact ⟨rfl, Chg.refl _ _⟩
def idxI (p : Int → Bool) (xs : List Int) : Int := match xs.findIdx? p with | some i => i | none => -1
set_option maxRecDepth 100000 in
set_option maxHeartbeats 1000000 in
theorem indexI_any (F : Nat → Prop) (v : Value) (xs : List Int) (p : Int → Bool) (g : FuncId) (hg : ∀ args W, (callFunc g args).run Try.prog W = .ok (.enter g args) W) (w : World) (hs : Sl F w v xs) (hl : xs.length * 16 ≤ 140737488351232)
    (hp : ∀ x W, Chg No w W → Calls Try.prog g #[.int .i64 x] W fun e w' => e = .returned (.bool (p x)) ∧ Chg No W w') :
    Calls Try.prog 89 #[v, .func (.func g) #[] #[]] w fun e w' => e = .returned (.int .i64 (idxI p xs)) ∧ Chg No w w' := by
  obtain ⟨A, c, rfl, hc, _⟩ := id hs
  have Hp := Lib.hid hp; clear hp
  go_enter Try.func89, Try.ntmps89
  go_wp2_with (with_reducible first | refine stop_append ?_ | refine stop_copy ?_ | refine stop_make ?_ | refine stop_lookup ?_ | refine stop_update ?_ | refine stop_slice ?_ | refine stop_range ?_ | refine stop_next ?_ | refine stop_convert ⟨_, rfl⟩ ?_ | refine stop_convertB ⟨_, _, _, rfl⟩ ?_ | refine stop_eqSlice ⟨_, _, rfl⟩ ?_)
  go_loopw [8] (fun v8 wr => ∃ k : Nat, k ≤ xs.length ∧ v8 = .int .i64 k ∧ Chg No w wr ∧ ∀ i (h : i < xs.length), i < k → p xs[i] = false) (fun v8 _ => xs.length - (intOf v8).toNat)
  case atStart => exact ⟨0, by omega, rfl, Chg.refl _ _, fun _ _ h => absurd h (by omega)⟩
  case round =>
    obtain ⟨k, hk, rfl, hc1, hall⟩ := hrel
    have Hall := Lib.hid hall; clear hall
    by_cases hlt : k < xs.length
    · obtain ⟨b, o, d, rfl, _, hbl, rfl, ha⟩ := (hs.keepNo hc1).get k hlt
      have ha0 := ha 0 _ rfl
      simp only [show Rep.n Int = 1 from rfl, Nat.mul_one, Nat.add_zero] at ha0
      clear ha hs
      generalize hx : xs[k] = x at ha0
      have Hx := Lib.hid hx; clear hx
      have Hcall := Lib.hid (Hp.out x wr hc1)
      by_cases hpx : p x = true
      · have hi : idxI p xs = k := by
          simp only [idxI]
          rw [show xs.findIdx? p = some k from List.findIdx?_eq_some_iff_getElem.2 ⟨hlt, by rw [Hx.out]; exact hpx, fun j hj => by rw [Hall.out j (by omega) hj]; simp⟩]
        have Hi := Lib.hid hi
        have Hpx := Lib.hid hpx
        clear hi hpx
        go_wp2_with (with_reducible first | refine stop_append ?_ | refine stop_copy ?_ | refine stop_make ?_ | refine stop_lookup ?_ | refine stop_update ?_ | refine stop_slice ?_ | refine stop_range ?_ | refine stop_next ?_ | refine stop_convert ⟨_, rfl⟩ ?_ | refine stop_convertB ⟨_, _, _, rfl⟩ ?_ | refine stop_eqSlice ⟨_, _, rfl⟩ ?_)
        refine Hcall.out.mono ?_
        rw [Hpx.out]
        rintro e w1 ⟨rfl, hc2⟩
        go_wp2_with (with_reducible first | refine stop_append ?_ | refine stop_copy ?_ | refine stop_make ?_ | refine stop_lookup ?_ | refine stop_update ?_ | refine stop_slice ?_ | refine stop_range ?_ | refine stop_next ?_ | refine stop_convert ⟨_, rfl⟩ ?_ | refine stop_convertB ⟨_, _, _, rfl⟩ ?_ | refine stop_eqSlice ⟨_, _, rfl⟩ ?_)
        go_ret
        rw [Hi.out]
        exact ⟨rfl, hc1.trans hc2⟩
      · have hpx : p x = false := by simpa using hpx
        have Hpx := Lib.hid hpx
        clear hpx
        go_wp2_with (with_reducible first | refine stop_append ?_ | refine stop_copy ?_ | refine stop_make ?_ | refine stop_lookup ?_ | refine stop_update ?_ | refine stop_slice ?_ | refine stop_range ?_ | refine stop_next ?_ | refine stop_convert ⟨_, rfl⟩ ?_ | refine stop_convertB ⟨_, _, _, rfl⟩ ?_ | refine stop_eqSlice ⟨_, _, rfl⟩ ?_)
        refine Hcall.out.mono ?_
        rw [Hpx.out]
        rintro e w1 ⟨rfl, hc2⟩
        go_wp2_with (with_reducible first | refine stop_append ?_ | refine stop_copy ?_ | refine stop_make ?_ | refine stop_lookup ?_ | refine stop_update ?_ | refine stop_slice ?_ | refine stop_range ?_ | refine stop_next ?_ | refine stop_convert ⟨_, rfl⟩ ?_ | refine stop_convertB ⟨_, _, _, rfl⟩ ?_ | refine stop_eqSlice ⟨_, _, rfl⟩ ?_)
        go_roundw
        case rel => exact ⟨k + 1, by omega, by go_num, hc1.trans hc2, fun i h hi => by
          rcases Nat.lt_or_ge i k with h' | h'
          · exact Hall.out i h h'
          · obtain rfl : i = k := by omega
            rw [Hx.out]; exact Hpx.out⟩
        case measure => simp [intOf]; omega
    · have hi : idxI p xs = -1 := by
        simp only [idxI]
        rw [List.findIdx?_eq_none_iff.2 (fun x hx => by
          obtain ⟨i, hi, rfl⟩ := List.mem_iff_getElem.1 hx
          exact Hall.out i hi (by omega))]
      have Hi := Lib.hid hi
      clear hi hs
      go_wp2_with (with_reducible first | refine stop_append ?_ | refine stop_copy ?_ | refine stop_make ?_ | refine stop_lookup ?_ | refine stop_update ?_ | refine stop_slice ?_ | refine stop_range ?_ | refine stop_next ?_ | refine stop_convert ⟨_, rfl⟩ ?_ | refine stop_convertB ⟨_, _, _, rfl⟩ ?_ | refine stop_eqSlice ⟨_, _, rfl⟩ ?_)
      go_ret
      rw [Hi.out]
      exact ⟨rfl, hc1⟩
theorem containsI_any (F : Nat → Prop) (v : Value) (xs : List Int) (p : Int → Bool) (g : FuncId) (hg : ∀ args W, (callFunc g args).run Try.prog W = .ok (.enter g args) W) (w : World) (hs : Sl F w v xs) (hl : xs.length * 16 ≤ 140737488351232)
    (hp : ∀ x W, Chg No w W → Calls Try.prog g #[.int .i64 x] W fun e w' => e = .returned (.bool (p x)) ∧ Chg No W w') :
    Calls Try.prog 75 #[v, .func (.func g) #[] #[]] w fun e w' => e = .returned (.bool (xs.any p)) ∧ Chg No w w' := by
  have Hcall := Lib.hid (indexI_any F v xs p g hg w hs hl hp)
  clear hp hs
  have hr : (0 ≤ idxI p xs ∧ xs.any p = true) ∨ (idxI p xs < 0 ∧ xs.any p = false) := by
    simp only [idxI]
    cases h : xs.findIdx? p with
    | some i =>
      left
      obtain ⟨hi, hpi, _⟩ := List.findIdx?_eq_some_iff_getElem.1 h
      exact ⟨by simp, List.any_eq_true.2 ⟨_, List.getElem_mem hi, hpi⟩⟩
    | none =>
      right
      exact ⟨by simp, by rw [List.any_eq_false]; intro x hx; rw [List.findIdx?_eq_none_iff.1 h x hx]; simp⟩
  generalize idxI p xs = i at Hcall hr
  generalize xs.any p = r at hr ⊢
  rcases hr with ⟨hi, hr⟩ | ⟨hi, hr⟩
  all_goals
    have Hr := Lib.hid hr; clear hr
    have hib := hi
    go_enter Try.func75, Try.ntmps75
    go_wp2_with (with_reducible first | refine stop_append ?_ | refine stop_copy ?_ | refine stop_make ?_ | refine stop_lookup ?_ | refine stop_update ?_ | refine stop_slice ?_ | refine stop_range ?_ | refine stop_next ?_ | refine stop_convert ⟨_, rfl⟩ ?_ | refine stop_convertB ⟨_, _, _, rfl⟩ ?_ | refine stop_eqSlice ⟨_, _, rfl⟩ ?_)
    refine Hcall.out.mono ?_
    rintro e w1 ⟨rfl, hc2⟩
    go_wp2_with (with_reducible first | refine stop_append ?_ | refine stop_copy ?_ | refine stop_make ?_ | refine stop_lookup ?_ | refine stop_update ?_ | refine stop_slice ?_ | refine stop_range ?_ | refine stop_next ?_ | refine stop_convert ⟨_, rfl⟩ ?_ | refine stop_convertB ⟨_, _, _, rfl⟩ ?_ | refine stop_eqSlice ⟨_, _, rfl⟩ ?_)
    go_ret
    rw [Hr.out]
    exact ⟨by simp [hi], hc2⟩
theorem vright_any (F : Nat → Prop) (v : Value) (xs : List Int) (w : World) (hs : Sl F w v xs) (hl : xs.length * 8 ≤ 140737488355328) :
    Calls Try.prog 61 #[v] w fun e w' => e = .returned (.bool (vright xs)) ∧ Chg No w w' := by
  obtain ⟨A, c, rfl, hc, _⟩ := id hs
  by_cases h : 1 ≤ xs.length ∧ xs.length ≤ 8
  · have Hcall := Lib.hid (fun g hg hp => containsI_any F _ xs (fun n => !mayB n) g hg w hs (by omega) hp)
    have hr : vright xs = !(xs.any (fun n => !mayB n)) := by simp [vright, h.1, h.2]
    have Hr := Lib.hid hr
    clear hr
    obtain ⟨h1, h8⟩ := h
    generalize xs.any (fun n => !mayB n) = b at Hcall Hr
    clear hs
    go_enter Try.func61, Try.ntmps61
    go_wp2_with (with_reducible first | refine stop_append ?_ | refine stop_copy ?_ | refine stop_make ?_ | refine stop_lookup ?_ | refine stop_update ?_ | refine stop_slice ?_ | refine stop_range ?_ | refine stop_next ?_ | refine stop_convert ⟨_, rfl⟩ ?_ | refine stop_convertB ⟨_, _, _, rfl⟩ ?_ | refine stop_eqSlice ⟨_, _, rfl⟩ ?_)
    refine (Hcall.out 76 (fun args W => by kernel_rfl) (fun x W _ => vright1_any x W)).mono ?_
    rintro e w1 ⟨rfl, hc2⟩
    go_wp2_with (with_reducible first | refine stop_append ?_ | refine stop_copy ?_ | refine stop_make ?_ | refine stop_lookup ?_ | refine stop_update ?_ | refine stop_slice ?_ | refine stop_range ?_ | refine stop_next ?_ | refine stop_convert ⟨_, rfl⟩ ?_ | refine stop_convertB ⟨_, _, _, rfl⟩ ?_ | refine stop_eqSlice ⟨_, _, rfl⟩ ?_)
    go_ret
    rw [Hr.out]
    exact ⟨rfl, hc2⟩
  · have hr : vright xs = false := by
      simp only [vright, Bool.and_eq_false_iff, decide_eq_false_iff_not]; omega
    have Hr := Lib.hid hr
    clear hr hs
    by_cases h1 : 1 ≤ xs.length
    · have h8 : ¬ xs.length ≤ 8 := fun h8 => h ⟨h1, h8⟩
      clear h
      go_enter Try.func61, Try.ntmps61
      go_wp2_with (with_reducible first | refine stop_append ?_ | refine stop_copy ?_ | refine stop_make ?_ | refine stop_lookup ?_ | refine stop_update ?_ | refine stop_slice ?_ | refine stop_range ?_ | refine stop_next ?_ | refine stop_convert ⟨_, rfl⟩ ?_ | refine stop_convertB ⟨_, _, _, rfl⟩ ?_ | refine stop_eqSlice ⟨_, _, rfl⟩ ?_)
      go_ret
      rw [Hr.out]
      exact ⟨rfl, Chg.refl _ _⟩
    · have h1' : xs.length = 0 := by omega
      rw [h1']
      clear h
      go_enter Try.func61, Try.ntmps61
      go_wp2_with (with_reducible first | refine stop_append ?_ | refine stop_copy ?_ | refine stop_make ?_ | refine stop_lookup ?_ | refine stop_update ?_ | refine stop_slice ?_ | refine stop_range ?_ | refine stop_next ?_ | refine stop_convert ⟨_, rfl⟩ ?_ | refine stop_convertB ⟨_, _, _, rfl⟩ ?_ | refine stop_eqSlice ⟨_, _, rfl⟩ ?_)
      go_ret
      rw [Hr.out]
      exact ⟨rfl, Chg.refl _ _⟩
theorem vkind_any (F G : Nat → Prop) (v u : Value) (xs ys : List Int) (w : World) (hs : Sl F w v xs) (ht : Sl G w u ys) (hl : xs.length * 8 ≤ 140737488355328) (hl' : ys.length * 8 ≤ 140737488355328) :
    Calls Try.prog 64 #[v, u] w fun e w' => e = .returned (.bool (kindB xs ys)) ∧ Chg No w w' := by
  obtain ⟨A, c, rfl, hc, _⟩ := id hs
  obtain ⟨B, d, rfl, hd, _⟩ := id ht
  have Hx := Lib.hid (fun W hW => vright_any F _ xs W (hs.keepNo hW) hl)
  have Hy := Lib.hid (fun W hW => vright_any G _ ys W (ht.keepNo hW) hl')
  clear hs ht
  by_cases hx : vright xs = true
  · by_cases hy : vright ys = true
    · have Hr := Lib.hid (show kindB xs ys = decide (xs.length = ys.length) by simp [kindB, hx, hy])
      have Hx1 := Lib.hid hx
      have Hy1 := Lib.hid hy
      clear hx hy
      by_cases he : xs.length = ys.length
      · rw [← he] at Hy Hr ⊢
        clear he hl' hd
        go_enter Try.func64, Try.ntmps64
        go_wp2_with (with_reducible first | refine stop_append ?_ | refine stop_copy ?_ | refine stop_make ?_ | refine stop_lookup ?_ | refine stop_update ?_ | refine stop_slice ?_ | refine stop_range ?_ | refine stop_next ?_ | refine stop_convert ⟨_, rfl⟩ ?_ | refine stop_convertB ⟨_, _, _, rfl⟩ ?_ | refine stop_eqSlice ⟨_, _, rfl⟩ ?_)
        refine (Hx.out w (Chg.refl _ _)).mono ?_
        rintro e w1 ⟨rfl, hc1⟩
        rw [Hx1.out]
        go_wp2_with (with_reducible first | refine stop_append ?_ | refine stop_copy ?_ | refine stop_make ?_ | refine stop_lookup ?_ | refine stop_update ?_ | refine stop_slice ?_ | refine stop_range ?_ | refine stop_next ?_ | refine stop_convert ⟨_, rfl⟩ ?_ | refine stop_convertB ⟨_, _, _, rfl⟩ ?_ | refine stop_eqSlice ⟨_, _, rfl⟩ ?_)
        refine (Hy.out w1 hc1).mono ?_
        rintro e w2 ⟨rfl, hc2⟩
        rw [Hy1.out]
        go_wp2_with (with_reducible first | refine stop_append ?_ | refine stop_copy ?_ | refine stop_make ?_ | refine stop_lookup ?_ | refine stop_update ?_ | refine stop_slice ?_ | refine stop_range ?_ | refine stop_next ?_ | refine stop_convert ⟨_, rfl⟩ ?_ | refine stop_convertB ⟨_, _, _, rfl⟩ ?_ | refine stop_eqSlice ⟨_, _, rfl⟩ ?_)
        go_ret
        rw [Hr.out]
        exact ⟨by simp, hc1.trans hc2⟩
      · have he2 : ((xs.length : Int) == ys.length) = false := by simp; omega
        go_enter Try.func64, Try.ntmps64
        go_wp2_with (with_reducible first | refine stop_append ?_ | refine stop_copy ?_ | refine stop_make ?_ | refine stop_lookup ?_ | refine stop_update ?_ | refine stop_slice ?_ | refine stop_range ?_ | refine stop_next ?_ | refine stop_convert ⟨_, rfl⟩ ?_ | refine stop_convertB ⟨_, _, _, rfl⟩ ?_ | refine stop_eqSlice ⟨_, _, rfl⟩ ?_)
        refine (Hx.out w (Chg.refl _ _)).mono ?_
        rintro e w1 ⟨rfl, hc1⟩
        rw [Hx1.out]
        go_wp2_with (with_reducible first | refine stop_append ?_ | refine stop_copy ?_ | refine stop_make ?_ | refine stop_lookup ?_ | refine stop_update ?_ | refine stop_slice ?_ | refine stop_range ?_ | refine stop_next ?_ | refine stop_convert ⟨_, rfl⟩ ?_ | refine stop_convertB ⟨_, _, _, rfl⟩ ?_ | refine stop_eqSlice ⟨_, _, rfl⟩ ?_)
        refine (Hy.out w1 hc1).mono ?_
        rintro e w2 ⟨rfl, hc2⟩
        rw [Hy1.out]
        go_wp2_with (with_reducible first | refine stop_append ?_ | refine stop_copy ?_ | refine stop_make ?_ | refine stop_lookup ?_ | refine stop_update ?_ | refine stop_slice ?_ | refine stop_range ?_ | refine stop_next ?_ | refine stop_convert ⟨_, rfl⟩ ?_ | refine stop_convertB ⟨_, _, _, rfl⟩ ?_ | refine stop_eqSlice ⟨_, _, rfl⟩ ?_)
        go_ret
        rw [Hr.out]
        exact ⟨by simp [he], hc1.trans hc2⟩
    · have hy : vright ys = false := by simpa using hy
      have Hr := Lib.hid (show kindB xs ys = false by simp [kindB, hx, hy])
      have Hx1 := Lib.hid hx
      have Hy1 := Lib.hid hy
      clear hx hy
      go_enter Try.func64, Try.ntmps64
      go_wp2_with (with_reducible first | refine stop_append ?_ | refine stop_copy ?_ | refine stop_make ?_ | refine stop_lookup ?_ | refine stop_update ?_ | refine stop_slice ?_ | refine stop_range ?_ | refine stop_next ?_ | refine stop_convert ⟨_, rfl⟩ ?_ | refine stop_convertB ⟨_, _, _, rfl⟩ ?_ | refine stop_eqSlice ⟨_, _, rfl⟩ ?_)
      refine (Hx.out w (Chg.refl _ _)).mono ?_
      rintro e w1 ⟨rfl, hc1⟩
      rw [Hx1.out]
      go_wp2_with (with_reducible first | refine stop_append ?_ | refine stop_copy ?_ | refine stop_make ?_ | refine stop_lookup ?_ | refine stop_update ?_ | refine stop_slice ?_ | refine stop_range ?_ | refine stop_next ?_ | refine stop_convert ⟨_, rfl⟩ ?_ | refine stop_convertB ⟨_, _, _, rfl⟩ ?_ | refine stop_eqSlice ⟨_, _, rfl⟩ ?_)
      refine (Hy.out w1 hc1).mono ?_
      rintro e w2 ⟨rfl, hc2⟩
      rw [Hy1.out]
      go_wp2_with (with_reducible first | refine stop_append ?_ | refine stop_copy ?_ | refine stop_make ?_ | refine stop_lookup ?_ | refine stop_update ?_ | refine stop_slice ?_ | refine stop_range ?_ | refine stop_next ?_ | refine stop_convert ⟨_, rfl⟩ ?_ | refine stop_convertB ⟨_, _, _, rfl⟩ ?_ | refine stop_eqSlice ⟨_, _, rfl⟩ ?_)
      go_ret
      rw [Hr.out]
      exact ⟨rfl, hc1.trans hc2⟩
  · have hx : vright xs = false := by simpa using hx
    have Hr := Lib.hid (show kindB xs ys = false by simp [kindB, hx])
    have Hx1 := Lib.hid hx
    clear hx
    go_enter Try.func64, Try.ntmps64
    go_wp2_with (with_reducible first | refine stop_append ?_ | refine stop_copy ?_ | refine stop_make ?_ | refine stop_lookup ?_ | refine stop_update ?_ | refine stop_slice ?_ | refine stop_range ?_ | refine stop_next ?_ | refine stop_convert ⟨_, rfl⟩ ?_ | refine stop_convertB ⟨_, _, _, rfl⟩ ?_ | refine stop_eqSlice ⟨_, _, rfl⟩ ?_)
    refine (Hx.out w (Chg.refl _ _)).mono ?_
    rintro e w1 ⟨rfl, hc1⟩
    rw [Hx1.out]
    go_wp2_with (with_reducible first | refine stop_append ?_ | refine stop_copy ?_ | refine stop_make ?_ | refine stop_lookup ?_ | refine stop_update ?_ | refine stop_slice ?_ | refine stop_range ?_ | refine stop_next ?_ | refine stop_convert ⟨_, rfl⟩ ?_ | refine stop_convertB ⟨_, _, _, rfl⟩ ?_ | refine stop_eqSlice ⟨_, _, rfl⟩ ?_)
    go_ret
    rw [Hr.out]
    exact ⟨rfl, hc1⟩
theorem vinfo_int : Info Try.prog 3 (.int .i64 0) 1 8 := by unfold Info; kernel_rfl
def PairPost (r : Option (List Int)) (w : World) (e : Ending) (w' : World) : Prop :=
  Chg No w w' ∧ ((∃ z, r = some z ∧ ∃ v, e = .returned (.tuple #[v, .bool true]) ∧ Sl (Lt w.heap.size) w' v z) ∨ (r = none ∧ e = .returned (.tuple #[.slice none 0 0, .bool false])))
def bothF (f : Int → Int → Int) (xs ys : List Int) : Option (List Int) := if kindB xs ys = true then some (List.zipWith f xs ys) else none
set_option maxRecDepth 100000 in
set_option maxHeartbeats 1000000 in
theorem both_any (F G : Nat → Prop) (v u : Value) (xs ys : List Int) (f : Int → Int → Int) (g : FuncId) (hg : ∀ args W, (callFunc g args).run Try.prog W = .ok (.enter g args) W) (w : World) (hs : Sl F w v xs) (ht : Sl G w u ys) (hl : xs.length * 8 ≤ 140737488355328) (hl' : ys.length * 8 ≤ 140737488355328)
    (hp : ∀ x y W, x ∈ xs → y ∈ ys → kindB xs ys = true → Calls Try.prog g #[.int .i64 x, .int .i64 y] W fun e w' => e = .returned (.int .i64 (f x y)) ∧ Chg No W w') :
    Calls Try.prog 78 #[v, u, .func (.func g) #[] #[]] w (PairPost (bothF f xs ys) w) := by
  obtain ⟨A, c, rfl, hc, _⟩ := id hs
  obtain ⟨B, d, rfl, hd, _⟩ := id ht
  have Hk := Lib.hid (vkind_any F G _ _ xs ys w hs ht hl hl')
  have Hs := Lib.hid hs
  have Ht := Lib.hid ht
  have Hp := Lib.hid hp
  clear hs ht hp
  by_cases hk : kindB xs ys = true
  · have Hr := Lib.hid (show bothF f xs ys = some (List.zipWith f xs ys) by simp [bothF, hk])
    have Hk1 := Lib.hid hk
    obtain ⟨⟨hx, hy⟩, he⟩ : (vright xs = true ∧ vright ys = true) ∧ xs.length = ys.length := by simpa [kindB] using hk
    have h8 := (vright_iff.1 hx).2.1
    clear hk hx hy
    have He := Lib.hid he
    rw [← he] at Ht Hk ⊢
    clear he hl hl' hd
    go_enter Try.func78, Try.ntmps78
    go_wp2_with (with_reducible first | refine stop_append ?_ | refine stop_copy ?_ | refine stop_make ?_ | refine stop_lookup ?_ | refine stop_update ?_ | refine stop_slice ?_ | refine stop_range ?_ | refine stop_next ?_ | refine stop_convert ⟨_, rfl⟩ ?_ | refine stop_convertB ⟨_, _, _, rfl⟩ ?_ | refine stop_eqSlice ⟨_, _, rfl⟩ ?_)
    refine Hk.out.mono ?_
    rintro e w1 ⟨rfl, hc1⟩
    rw [Hk1.out]
    have Hc1 := Lib.hid hc1
    go_wp2_with (with_reducible first | refine stop_append ?_ | refine stop_copy ?_ | refine stop_make ?_ | refine stop_lookup ?_ | refine stop_update ?_ | refine stop_slice ?_ | refine stop_range ?_ | refine stop_next ?_ | refine stop_convert ⟨_, rfl⟩ ?_ | refine stop_convertB ⟨_, _, _, rfl⟩ ?_ | refine stop_eqSlice ⟨_, _, rfl⟩ ?_)
    go_loopw [8, 9, 16] (fun v8 _ v16 wr => ∃ k : Nat, k ≤ xs.length ∧ v16 = .int .i64 k ∧ Chg No w wr ∧ Own No wr w.heap.size 3 v8 (List.zipWith f (xs.take k) (ys.take k))) (fun _ _ v16 _ => xs.length - (intOf v16).toNat)
    case atStart => exact ⟨0, by omega, rfl, hc1, Own.nil _ _ _ _⟩
    case round =>
      obtain ⟨k, hk, rfl, hc2, hown⟩ := hrel
      by_cases hlt : k < xs.length
      · have hlt' : k < ys.length := by have := He.out; omega
        obtain ⟨b, o, dd, rfl, _, hbl, rfl, ha⟩ := Hs.out.get k hlt
        have ha0 := ha 0 _ rfl
        have hgy : Sl G w (.slice B xs.length d) ys := Ht.out
        obtain ⟨b', o', dd', rfl, _, hbl', rfl, hb⟩ := hgy.get k hlt'
        have hb0 := hb 0 _ rfl
        simp only [show Rep.n Int = 1 from rfl, Nat.mul_one, Nat.add_zero] at ha0 hb0
        have hz : List.zipWith f (xs.take (k + 1)) (ys.take (k + 1)) = List.zipWith f (xs.take k) (ys.take k) ++ [f xs[k] ys[k]] := by
          rw [List.take_succ_eq_append_getElem hlt, List.take_succ_eq_append_getElem hlt', List.zipWith_append (by simp; omega)]; rfl
        have hlen : (List.zipWith f (xs.take k) (ys.take k)).length = k := by simp; omega
        have Hcall := Lib.hid (fun W => Hp.out xs[k] ys[k] W (List.getElem_mem hlt) (List.getElem_mem hlt') Hk1.out)
        clear ha hb hgy
        generalize xs[k] = x at ha0 hz Hcall
        generalize ys[k] = y at hb0 hz Hcall
        generalize List.zipWith f (xs.take k) (ys.take k) = acc at hz hlen hown
        have Hz := Lib.hid hz
        have Hlen := Lib.hid hlen
        clear hz hlen
        obtain ⟨A8, c8, rfl⟩ := hown.slice
        have hx1 := hc2.cell ha0 (not_no _)
        have hy1 := hc2.cell hb0 (not_no _)
        clear ha0 hb0
        have hxb : ¬ OB (.slice A8 acc.length c8) b := fun h => by have := (hown.lt _ h).1; omega
        have hyb : ¬ OB (.slice A8 acc.length c8) b' := fun h => by have := (hown.lt _ h).1; omega
        go_wp2_with (with_reducible first | refine stop_append ?_ | refine stop_copy ?_ | refine stop_make ?_ | refine stop_lookup ?_ | refine stop_update ?_ | refine stop_slice ?_ | refine stop_range ?_ | refine stop_next ?_ | refine stop_convert ⟨_, rfl⟩ ?_ | refine stop_convertB ⟨_, _, _, rfl⟩ ?_ | refine stop_eqSlice ⟨_, _, rfl⟩ ?_)
        refine rt_start (fun W => W.cell? ⟨b, o + k, none⟩ = some (.int .i64 x) ∧ W.cell? ⟨b', o' + k, none⟩ = some (.int .i64 y)) (by kernel_rfl) ?_
        iterate 10 ((refine rt_nx [] (v := ?_) rfl (by kernel_rfl) (fun _ _ _ h => h) rfl ?_ ?_; rotate_left; focus (intro W hW; (try dsimp only at hW); go_split_ands; go_simp; (try (simp (disch := omega) only [IntWalk.i64_in]; (try go_simp))); (try (split; (next => omega); (try go_simp))); try rfl; done)); try simp only [Act.put, List.setIfInBounds_toArray, List.set_cons_zero, List.set_cons_succ, Nat.reduceAdd])
        have s0 : (fun W => W.cell? ⟨b, o + k, none⟩ = some (.int .i64 x) ∧ W.cell? ⟨b', o' + k, none⟩ = some (.int .i64 y)) wr.drew := ⟨hx1, hy1⟩
        refine rt_kx (fun W => W.cell? ⟨b, o + k, none⟩ = some (.int .i64 x) ∧ W.cell? ⟨b', o' + k, none⟩ = some (.int .i64 y)) 10 (by kernel_rfl) s0 (fun _ h => h) rfl (by rfl) (fun K hK => ?_)
        go_simp
        refine (Hcall.out _).mono ?_
        rintro e w3 ⟨rfl, hc3⟩
        have hc3 : Chg No wr w3 := (Chg.refl No wr).drew.trans hc3
        have s3 : (fun W => W.cell? ⟨b, o + k, none⟩ = some (.int .i64 x) ∧ W.cell? ⟨b', o' + k, none⟩ = some (.int .i64 y)) w3 := ⟨hc3.cell hx1 (not_no _), hc3.cell hy1 (not_no _)⟩
        refine hK _ _ ?_
        clear hK K
        try simp only [Act.put, List.setIfInBounds_toArray, List.set_cons_zero, List.set_cons_succ]
        refine rt_kx (fun W => W.cell? ⟨b, o + k, none⟩ = some (.int .i64 x) ∧ W.cell? ⟨b', o' + k, none⟩ = some (.int .i64 y)) 11 (by kernel_rfl) s3 (fun _ h => h) rfl (by rfl) (fun K hK => ?_)
        go_simp
        refine hK _ _ ?_
        clear hK K
        try simp only [Act.put, List.setIfInBounds_toArray, List.set_cons_zero, List.set_cons_succ]
        have hc4 : Chg No wr (w3.alloc (.cells #[.int .i64 (f x y)] 3)) := hc3.alloc _
        have s4 : (fun W => W.cell? ⟨b, o + k, none⟩ = some (.int .i64 x) ∧ W.cell? ⟨b', o' + k, none⟩ = some (.int .i64 y)) (w3.alloc (.cells #[.int .i64 (f x y)] 3)) := ⟨hc4.cell hx1 (not_no _), hc4.cell hy1 (not_no _)⟩
        have hown4 := hown.keep (F := No) hc4 (fun _ _ h => h) (fun _ _ h => h)
        refine rt_append_flat (α := Int) (fun W => W.cell? ⟨b, o + k, none⟩ = some (.int .i64 x) ∧ W.cell? ⟨b', o' + k, none⟩ = some (.int .i64 y)) (i := 12) (by kernel_rfl) s4 (fun _ h => h) rfl rfl Try.underlying22 vinfo_int rfl hown4 rfl rfl (Sl.lit1 (F := No) (y := f x y) rfl rfl (not_no _)) (by have := Hlen.out; simp; omega) (by have := Hlen.out; simp; omega) (by have := hc2.size; have := hc3.size; simp; omega) ?_
        intro v5 w5 hown5 hg5
        have hc5 : Chg (OB (.slice A8 acc.length c8)) wr w5 := hc4.of_no.trans hg5.chg
        have hcw : Chg No w w5 := hc2.old hc5 (fun k h => (hown.lt _ h).1)
        have s5 : (fun W => W.cell? ⟨b, o + k, none⟩ = some (.int .i64 x) ∧ W.cell? ⟨b', o' + k, none⟩ = some (.int .i64 y)) w5 := ⟨hc5.cell hx1 hxb, hc5.cell hy1 hyb⟩
        try simp only [Act.put, List.setIfInBounds_toArray, List.set_cons_zero, List.set_cons_succ, Nat.reduceAdd]
        refine rt_kx (fun W => W.cell? ⟨b, o + k, none⟩ = some (.int .i64 x) ∧ W.cell? ⟨b', o' + k, none⟩ = some (.int .i64 y)) 13 (by kernel_rfl) s5 (fun _ h => h) rfl (by rfl) (fun K hK => ?_)
        go_simp
        refine hK _ _ ?_
        clear hK K
        try simp only [Act.put, List.setIfInBounds_toArray, List.set_cons_zero, List.set_cons_succ]
        refine rt_done (by kernel_rfl)  ?_
        go_wp2_with (with_reducible first | refine stop_append ?_ | refine stop_copy ?_ | refine stop_make ?_ | refine stop_lookup ?_ | refine stop_update ?_ | refine stop_slice ?_ | refine stop_range ?_ | refine stop_next ?_ | refine stop_convert ⟨_, rfl⟩ ?_ | refine stop_convertB ⟨_, _, _, rfl⟩ ?_ | refine stop_eqSlice ⟨_, _, rfl⟩ ?_)
        go_roundw
        case rel => exact ⟨k + 1, by omega, by go_num, hcw, by rw [Hz.out]; exact hown5⟩
        case measure => simp [intOf]; omega
      · obtain rfl : k = xs.length := by omega
        rw [List.take_length, show ys.take xs.length = ys by rw [He.out, List.take_length]] at hown
        have Hown := Lib.hid hown
        obtain ⟨A', c', hv8⟩ := hown.slice
        subst hv8
        clear hown
        have Hc2 := Lib.hid hc2
        go_wp2_with (with_reducible first | refine stop_append ?_ | refine stop_copy ?_ | refine stop_make ?_ | refine stop_lookup ?_ | refine stop_update ?_ | refine stop_slice ?_ | refine stop_range ?_ | refine stop_next ?_ | refine stop_convert ⟨_, rfl⟩ ?_ | refine stop_convertB ⟨_, _, _, rfl⟩ ?_ | refine stop_eqSlice ⟨_, _, rfl⟩ ?_)
        go_ret2
        rw [Hr.out]
        exact ⟨Hc2.out, .inl ⟨_, rfl, _, rfl, Hown.out.slFlat (fun k hk f => by have := (Hown.out.lt k hk).1; simp only [Lt] at f; omega)⟩⟩
  · have hk : kindB xs ys = false := by simpa using hk
    have Hr := Lib.hid (show bothF f xs ys = none by simp [bothF, hk])
    have Hk1 := Lib.hid hk
    clear hk
    go_enter Try.func78, Try.ntmps78
    go_wp2_with (with_reducible first | refine stop_append ?_ | refine stop_copy ?_ | refine stop_make ?_ | refine stop_lookup ?_ | refine stop_update ?_ | refine stop_slice ?_ | refine stop_range ?_ | refine stop_next ?_ | refine stop_convert ⟨_, rfl⟩ ?_ | refine stop_convertB ⟨_, _, _, rfl⟩ ?_ | refine stop_eqSlice ⟨_, _, rfl⟩ ?_)
    refine Hk.out.mono ?_
    rintro e w1 ⟨rfl, hc1⟩
    rw [Hk1.out]
    go_wp2_with (with_reducible first | refine stop_append ?_ | refine stop_copy ?_ | refine stop_make ?_ | refine stop_lookup ?_ | refine stop_update ?_ | refine stop_slice ?_ | refine stop_range ?_ | refine stop_next ?_ | refine stop_convert ⟨_, rfl⟩ ?_ | refine stop_convertB ⟨_, _, _, rfl⟩ ?_ | refine stop_eqSlice ⟨_, _, rfl⟩ ?_)
    go_ret2
    rw [Hr.out]
    exact ⟨hc1, .inr ⟨rfl, rfl⟩⟩
theorem vmax1_any (x y : Int) (w : World) : Calls Try.prog 79 #[.int .i64 x, .int .i64 y] w fun e w' => e = .returned (.int .i64 (max x y)) ∧ Chg No w w' := by
  by_cases h : x < y
  · have H := Lib.hid (show max x y = y by omega)
    go_enter Try.func79, Try.ntmps79
    go_wp2_with (with_reducible first | refine stop_append ?_ | refine stop_copy ?_ | refine stop_make ?_ | refine stop_lookup ?_ | refine stop_update ?_ | refine stop_slice ?_ | refine stop_range ?_ | refine stop_next ?_ | refine stop_convert ⟨_, rfl⟩ ?_ | refine stop_convertB ⟨_, _, _, rfl⟩ ?_ | refine stop_eqSlice ⟨_, _, rfl⟩ ?_)
    go_ret
    rw [H.out]; exact ⟨rfl, Chg.refl _ _⟩
  · have H := Lib.hid (show max x y = x by omega)
    go_enter Try.func79, Try.ntmps79
    go_wp2_with (with_reducible first | refine stop_append ?_ | refine stop_copy ?_ | refine stop_make ?_ | refine stop_lookup ?_ | refine stop_update ?_ | refine stop_slice ?_ | refine stop_range ?_ | refine stop_next ?_ | refine stop_convert ⟨_, rfl⟩ ?_ | refine stop_convertB ⟨_, _, _, rfl⟩ ?_ | refine stop_eqSlice ⟨_, _, rfl⟩ ?_)
    go_ret
    rw [H.out]; exact ⟨rfl, Chg.refl _ _⟩
theorem vmax_any (F G : Nat → Prop) (v u : Value) (xs ys : List Int) (w : World) (hs : Sl F w v xs) (ht : Sl G w u ys) (hl : xs.length * 8 ≤ 140737488355328) (hl' : ys.length * 8 ≤ 140737488355328) :
    Calls Try.prog 62 #[v, u] w (PairPost (bothF max xs ys) w) := by
  have H := Lib.hid (both_any F G v u xs ys max 79 (fun args W => by kernel_rfl) w hs ht hl hl' (fun x y W _ _ _ => vmax1_any x y W))
  obtain ⟨A, c, rfl, hc, _⟩ := id hs
  obtain ⟨B, d, rfl, hd, _⟩ := id ht
  generalize bothF max xs ys = r at H ⊢
  clear hs ht
  go_enter Try.func62, Try.ntmps62
  go_wp2_with (with_reducible first | refine stop_append ?_ | refine stop_copy ?_ | refine stop_make ?_ | refine stop_lookup ?_ | refine stop_update ?_ | refine stop_slice ?_ | refine stop_range ?_ | refine stop_next ?_ | refine stop_convert ⟨_, rfl⟩ ?_ | refine stop_convertB ⟨_, _, _, rfl⟩ ?_ | refine stop_eqSlice ⟨_, _, rfl⟩ ?_)
  refine H.out.mono ?_
  rintro e w1 ⟨hc1, ⟨z, rfl, v', rfl, hz⟩ | ⟨rfl, rfl⟩⟩
  · obtain ⟨A', c', rfl⟩ := hz.slice
    have Hz := Lib.hid hz
    clear hz
    go_wp2_with (with_reducible first | refine stop_append ?_ | refine stop_copy ?_ | refine stop_make ?_ | refine stop_lookup ?_ | refine stop_update ?_ | refine stop_slice ?_ | refine stop_range ?_ | refine stop_next ?_ | refine stop_convert ⟨_, rfl⟩ ?_ | refine stop_convertB ⟨_, _, _, rfl⟩ ?_ | refine stop_eqSlice ⟨_, _, rfl⟩ ?_)
    go_ret2
    exact ⟨hc1, .inl ⟨_, rfl, _, rfl, Hz.out⟩⟩
  · go_wp2_with (with_reducible first | refine stop_append ?_ | refine stop_copy ?_ | refine stop_make ?_ | refine stop_lookup ?_ | refine stop_update ?_ | refine stop_slice ?_ | refine stop_range ?_ | refine stop_next ?_ | refine stop_convert ⟨_, rfl⟩ ?_ | refine stop_convertB ⟨_, _, _, rfl⟩ ?_ | refine stop_eqSlice ⟨_, _, rfl⟩ ?_)
    go_ret2
    exact ⟨hc1, .inr ⟨rfl, rfl⟩⟩
set_option maxRecDepth 100000 in
set_option maxHeartbeats 1000000 in
theorem vequal_any (F G : Nat → Prop) (v u : Value) (xs ys : List Int) (w : World) (h : Sl F w v xs) (h' : Sl G w u ys) (hl : xs.length ≤ 1000000) (hl' : ys.length ≤ 17592186044416) :
    Calls Try.prog 57 #[v, u] w fun e w' => e = .returned (.bool (decide (xs = ys))) ∧ Chg No w w' := by
  obtain ⟨A, c, rfl⟩ := h.slice
  obtain ⟨B, d, rfl⟩ := h'.slice
  have H := Lib.hid h; have H' := Lib.hid h'
  clear h h'
  by_cases hlen : xs.length = ys.length
  · go_enter Try.func57, Try.ntmps57
    have hne : ¬ (xs.length : Int) ≠ ys.length := by omega
    have Hlen := Lib.hid hlen
    rw [← hlen] at H' hl' ⊢
    clear hlen hne
    go_wp2_with (with_reducible first | refine stop_append ?_ | refine stop_copy ?_ | refine stop_make ?_ | refine stop_lookup ?_ | refine stop_update ?_ | refine stop_slice ?_ | refine stop_range ?_ | refine stop_next ?_ | refine stop_convert ⟨_, rfl⟩ ?_ | refine stop_convertB ⟨_, _, _, rfl⟩ ?_ | refine stop_eqSlice ⟨_, _, rfl⟩ ?_)
    go_loopw [5, 13] (fun v5 v13 wr => ∃ k : Nat, k ≤ xs.length ∧ v13 = .int .i64 k ∧ Chg No w wr ∧ xs.take k = ys.take k) (fun _ v13 _ => xs.length - (intOf v13).toNat)
    case atStart => exact ⟨0, by omega, rfl, Chg.refl _ _, rfl⟩
    case round =>
      obtain ⟨k, hk, rfl, hc, he⟩ := hrel
      have He := Lib.hid he; clear he
      by_cases hlt : k < xs.length
      · have hlt' : k < ys.length := by have := Hlen.out; omega
        obtain ⟨b, o, dd, rfl, _, hbl, rfl, ha⟩ := (H.out.keepNo hc).get k hlt
        have ha0 := ha 0 _ rfl
        have hgy : Sl G w (.slice B xs.length d) ys := H'.out
        obtain ⟨b', o', dd', rfl, _, hbl', rfl, hb⟩ := (hgy.keepNo hc).get k hlt'
        have hb0 := hb 0 _ rfl
        simp only [show Rep.n Int = 1 from rfl, Nat.mul_one, Nat.add_zero] at ha0 hb0
        have hsx : xs.take (k + 1) = xs.take k ++ [xs[k]] := List.take_succ_eq_append_getElem hlt
        have hsy : ys.take (k + 1) = ys.take k ++ [ys[k]] := List.take_succ_eq_append_getElem hlt'
        have hxy : xs[k] ≠ ys[k] → xs ≠ ys := fun h e => h (by subst e; rfl)
        clear ha hb hgy
        generalize xs[k] = x at ha0 hsx hxy
        generalize ys[k] = y at hb0 hsy hxy
        have Hsx := Lib.hid hsx; have Hsy := Lib.hid hsy; have Hxy := Lib.hid hxy
        clear hsx hsy hxy
        by_cases hq : x = y
        · subst hq
          go_wp2_with (with_reducible first | refine stop_append ?_ | refine stop_copy ?_ | refine stop_make ?_ | refine stop_lookup ?_ | refine stop_update ?_ | refine stop_slice ?_ | refine stop_range ?_ | refine stop_next ?_ | refine stop_convert ⟨_, rfl⟩ ?_ | refine stop_convertB ⟨_, _, _, rfl⟩ ?_ | refine stop_eqSlice ⟨_, _, rfl⟩ ?_)
          refine reg_start (fun W => W.cell? ⟨b, o + k, none⟩ = some (.int .i64 x) ∧ W.cell? ⟨b', o' + k, none⟩ = some (.int .i64 x)) (by kernel_rfl) ?_
          ((refine reg_yes (i := 0) (oi := { dst := some 16, op := .move (.tmp 0), type := 22, pos := "slices.go:25", after := #[], guard := none }) (v := ?_) rfl (by kernel_rfl) (by kernel_rfl) (by kernel_rfl) (fun _ _ _ h => h) rfl ?_ ?_); rotate_left; focus (intro W hW; (try dsimp only at hW); go_split_ands; go_simp; (try (simp (disch := omega) only [IntWalk.i64_in]; (try go_simp))); (try (split; (next => omega); (try go_simp))); try rfl; done))
          try simp only [Act.put, List.setIfInBounds_toArray, List.set_cons_zero, List.set_cons_succ, Nat.reduceAdd]
          ((refine reg_yes (i := 1) (oi := { dst := some 17, op := .move (.tmp 5), type := 3, pos := "slices.go:25", after := #[], guard := none }) (v := ?_) rfl (by kernel_rfl) (by kernel_rfl) (by kernel_rfl) (fun _ _ _ h => h) rfl ?_ ?_); rotate_left; focus (intro W hW; (try dsimp only at hW); go_split_ands; go_simp; (try (simp (disch := omega) only [IntWalk.i64_in]; (try go_simp))); (try (split; (next => omega); (try go_simp))); try rfl; done))
          try simp only [Act.put, List.setIfInBounds_toArray, List.set_cons_zero, List.set_cons_succ, Nat.reduceAdd]
          ((refine reg_yes (i := 2) (oi := { dst := some 18, op := .indexAddr 22 (.tmp 16) (.tmp 17), type := 0, pos := "slices.go:25", after := #[{ on := 0, ground := .data }, { on := 1, ground := .data }], guard := none }) (v := ?_) rfl (by kernel_rfl) (by kernel_rfl) (by kernel_rfl) (fun _ _ _ h => h) rfl ?_ ?_); rotate_left; focus (intro W hW; (try dsimp only at hW); go_split_ands; go_simp; (try (simp (disch := omega) only [IntWalk.i64_in]; (try go_simp))); (try (split; (next => omega); (try go_simp))); try rfl; done))
          try simp only [Act.put, List.setIfInBounds_toArray, List.set_cons_zero, List.set_cons_succ, Nat.reduceAdd]
          ((refine reg_yes (i := 3) (oi := { dst := some 19, op := .load 3 (.tmp 18), type := 3, pos := "slices.go:25", after := #[{ on := 2, ground := .data }], guard := none }) (v := ?_) rfl (by kernel_rfl) (by kernel_rfl) (by kernel_rfl) (fun _ _ _ h => h) rfl ?_ ?_); rotate_left; focus (intro W hW; (try dsimp only at hW); go_split_ands; go_simp; (try (simp (disch := omega) only [IntWalk.i64_in]; (try go_simp))); (try (split; (next => omega); (try go_simp))); try rfl; done))
          try simp only [Act.put, List.setIfInBounds_toArray, List.set_cons_zero, List.set_cons_succ, Nat.reduceAdd]
          ((refine reg_yes (i := 4) (oi := { dst := some 20, op := .move (.tmp 1), type := 22, pos := "slices.go:25", after := #[], guard := none }) (v := ?_) rfl (by kernel_rfl) (by kernel_rfl) (by kernel_rfl) (fun _ _ _ h => h) rfl ?_ ?_); rotate_left; focus (intro W hW; (try dsimp only at hW); go_split_ands; go_simp; (try (simp (disch := omega) only [IntWalk.i64_in]; (try go_simp))); (try (split; (next => omega); (try go_simp))); try rfl; done))
          try simp only [Act.put, List.setIfInBounds_toArray, List.set_cons_zero, List.set_cons_succ, Nat.reduceAdd]
          ((refine reg_yes (i := 5) (oi := { dst := some 21, op := .move (.tmp 5), type := 3, pos := "slices.go:25", after := #[], guard := none }) (v := ?_) rfl (by kernel_rfl) (by kernel_rfl) (by kernel_rfl) (fun _ _ _ h => h) rfl ?_ ?_); rotate_left; focus (intro W hW; (try dsimp only at hW); go_split_ands; go_simp; (try (simp (disch := omega) only [IntWalk.i64_in]; (try go_simp))); (try (split; (next => omega); (try go_simp))); try rfl; done))
          try simp only [Act.put, List.setIfInBounds_toArray, List.set_cons_zero, List.set_cons_succ, Nat.reduceAdd]
          ((refine reg_yes (i := 6) (oi := { dst := some 22, op := .indexAddr 22 (.tmp 20) (.tmp 21), type := 0, pos := "slices.go:25", after := #[{ on := 4, ground := .data }, { on := 5, ground := .data }], guard := none }) (v := ?_) rfl (by kernel_rfl) (by kernel_rfl) (by kernel_rfl) (fun _ _ _ h => h) rfl ?_ ?_); rotate_left; focus (intro W hW; (try dsimp only at hW); go_split_ands; go_simp; (try (simp (disch := omega) only [IntWalk.i64_in]; (try go_simp))); (try (split; (next => omega); (try go_simp))); try rfl; done))
          try simp only [Act.put, List.setIfInBounds_toArray, List.set_cons_zero, List.set_cons_succ, Nat.reduceAdd]
          ((refine reg_yes (i := 7) (oi := { dst := some 23, op := .load 3 (.tmp 22), type := 3, pos := "slices.go:25", after := #[{ on := 6, ground := .data }], guard := none }) (v := ?_) rfl (by kernel_rfl) (by kernel_rfl) (by kernel_rfl) (fun _ _ _ h => h) rfl ?_ ?_); rotate_left; focus (intro W hW; (try dsimp only at hW); go_split_ands; go_simp; (try (simp (disch := omega) only [IntWalk.i64_in]; (try go_simp))); (try (split; (next => omega); (try go_simp))); try rfl; done))
          try simp only [Act.put, List.setIfInBounds_toArray, List.set_cons_zero, List.set_cons_succ, Nat.reduceAdd]
          ((refine reg_yes (i := 8) (oi := { dst := some 24, op := .binOp .neq 3 (.tmp 19) (.tmp 23) 3, type := 4, pos := "slices.go:25", after := #[{ on := 3, ground := .data }, { on := 7, ground := .data }], guard := none }) (v := ?_) rfl (by kernel_rfl) (by kernel_rfl) (by kernel_rfl) (fun _ _ _ h => h) rfl ?_ ?_); rotate_left; focus (intro W hW; (try dsimp only at hW); go_split_ands; go_simp; (try (simp (disch := omega) only [IntWalk.i64_in]; (try go_simp))); (try (split; (next => omega); (try go_simp))); try rfl; done))
          try simp only [Act.put, List.setIfInBounds_toArray, List.set_cons_zero, List.set_cons_succ, Nat.reduceAdd]
          refine reg_done (by kernel_rfl) (show (fun W => W.cell? ⟨b, o + k, none⟩ = some (.int .i64 x) ∧ W.cell? ⟨b', o' + k, none⟩ = some (.int .i64 x)) wr.drew from ⟨ha0, hb0⟩) ?_
          have hcd := hc.drew
          go_wp2_with (with_reducible first | refine stop_append ?_ | refine stop_copy ?_ | refine stop_make ?_ | refine stop_lookup ?_ | refine stop_update ?_ | refine stop_slice ?_ | refine stop_range ?_ | refine stop_next ?_ | refine stop_convert ⟨_, rfl⟩ ?_ | refine stop_convertB ⟨_, _, _, rfl⟩ ?_ | refine stop_eqSlice ⟨_, _, rfl⟩ ?_)
          go_roundw
          case rel => exact ⟨k + 1, by omega, by go_num, hcd, by rw [Hsx.out, Hsy.out, He.out]⟩
          case measure => simp [intOf]; omega
        · have hq1 : (x == y) = false := by simpa using hq
          have hq2 : (x != y) = true := by simpa using hq
          have Hq := Lib.hid hq
          clear hq
          go_wp2_with (with_reducible first | refine stop_append ?_ | refine stop_copy ?_ | refine stop_make ?_ | refine stop_lookup ?_ | refine stop_update ?_ | refine stop_slice ?_ | refine stop_range ?_ | refine stop_next ?_ | refine stop_convert ⟨_, rfl⟩ ?_ | refine stop_convertB ⟨_, _, _, rfl⟩ ?_ | refine stop_eqSlice ⟨_, _, rfl⟩ ?_)
          refine reg_start (fun W => W.cell? ⟨b, o + k, none⟩ = some (.int .i64 x) ∧ W.cell? ⟨b', o' + k, none⟩ = some (.int .i64 y)) (by kernel_rfl) ?_
          ((refine reg_yes (i := 0) (oi := { dst := some 16, op := .move (.tmp 0), type := 22, pos := "slices.go:25", after := #[], guard := none }) (v := ?_) rfl (by kernel_rfl) (by kernel_rfl) (by kernel_rfl) (fun _ _ _ h => h) rfl ?_ ?_); rotate_left; focus (intro W hW; (try dsimp only at hW); go_split_ands; go_simp; (try (simp (disch := omega) only [IntWalk.i64_in]; (try go_simp))); (try (split; (next => omega); (try go_simp))); try rfl; done))
          try simp only [Act.put, List.setIfInBounds_toArray, List.set_cons_zero, List.set_cons_succ, Nat.reduceAdd]
          ((refine reg_yes (i := 1) (oi := { dst := some 17, op := .move (.tmp 5), type := 3, pos := "slices.go:25", after := #[], guard := none }) (v := ?_) rfl (by kernel_rfl) (by kernel_rfl) (by kernel_rfl) (fun _ _ _ h => h) rfl ?_ ?_); rotate_left; focus (intro W hW; (try dsimp only at hW); go_split_ands; go_simp; (try (simp (disch := omega) only [IntWalk.i64_in]; (try go_simp))); (try (split; (next => omega); (try go_simp))); try rfl; done))
          try simp only [Act.put, List.setIfInBounds_toArray, List.set_cons_zero, List.set_cons_succ, Nat.reduceAdd]
          ((refine reg_yes (i := 2) (oi := { dst := some 18, op := .indexAddr 22 (.tmp 16) (.tmp 17), type := 0, pos := "slices.go:25", after := #[{ on := 0, ground := .data }, { on := 1, ground := .data }], guard := none }) (v := ?_) rfl (by kernel_rfl) (by kernel_rfl) (by kernel_rfl) (fun _ _ _ h => h) rfl ?_ ?_); rotate_left; focus (intro W hW; (try dsimp only at hW); go_split_ands; go_simp; (try (simp (disch := omega) only [IntWalk.i64_in]; (try go_simp))); (try (split; (next => omega); (try go_simp))); try rfl; done))
          try simp only [Act.put, List.setIfInBounds_toArray, List.set_cons_zero, List.set_cons_succ, Nat.reduceAdd]
          ((refine reg_yes (i := 3) (oi := { dst := some 19, op := .load 3 (.tmp 18), type := 3, pos := "slices.go:25", after := #[{ on := 2, ground := .data }], guard := none }) (v := ?_) rfl (by kernel_rfl) (by kernel_rfl) (by kernel_rfl) (fun _ _ _ h => h) rfl ?_ ?_); rotate_left; focus (intro W hW; (try dsimp only at hW); go_split_ands; go_simp; (try (simp (disch := omega) only [IntWalk.i64_in]; (try go_simp))); (try (split; (next => omega); (try go_simp))); try rfl; done))
          try simp only [Act.put, List.setIfInBounds_toArray, List.set_cons_zero, List.set_cons_succ, Nat.reduceAdd]
          ((refine reg_yes (i := 4) (oi := { dst := some 20, op := .move (.tmp 1), type := 22, pos := "slices.go:25", after := #[], guard := none }) (v := ?_) rfl (by kernel_rfl) (by kernel_rfl) (by kernel_rfl) (fun _ _ _ h => h) rfl ?_ ?_); rotate_left; focus (intro W hW; (try dsimp only at hW); go_split_ands; go_simp; (try (simp (disch := omega) only [IntWalk.i64_in]; (try go_simp))); (try (split; (next => omega); (try go_simp))); try rfl; done))
          try simp only [Act.put, List.setIfInBounds_toArray, List.set_cons_zero, List.set_cons_succ, Nat.reduceAdd]
          ((refine reg_yes (i := 5) (oi := { dst := some 21, op := .move (.tmp 5), type := 3, pos := "slices.go:25", after := #[], guard := none }) (v := ?_) rfl (by kernel_rfl) (by kernel_rfl) (by kernel_rfl) (fun _ _ _ h => h) rfl ?_ ?_); rotate_left; focus (intro W hW; (try dsimp only at hW); go_split_ands; go_simp; (try (simp (disch := omega) only [IntWalk.i64_in]; (try go_simp))); (try (split; (next => omega); (try go_simp))); try rfl; done))
          try simp only [Act.put, List.setIfInBounds_toArray, List.set_cons_zero, List.set_cons_succ, Nat.reduceAdd]
          ((refine reg_yes (i := 6) (oi := { dst := some 22, op := .indexAddr 22 (.tmp 20) (.tmp 21), type := 0, pos := "slices.go:25", after := #[{ on := 4, ground := .data }, { on := 5, ground := .data }], guard := none }) (v := ?_) rfl (by kernel_rfl) (by kernel_rfl) (by kernel_rfl) (fun _ _ _ h => h) rfl ?_ ?_); rotate_left; focus (intro W hW; (try dsimp only at hW); go_split_ands; go_simp; (try (simp (disch := omega) only [IntWalk.i64_in]; (try go_simp))); (try (split; (next => omega); (try go_simp))); try rfl; done))
          try simp only [Act.put, List.setIfInBounds_toArray, List.set_cons_zero, List.set_cons_succ, Nat.reduceAdd]
          ((refine reg_yes (i := 7) (oi := { dst := some 23, op := .load 3 (.tmp 22), type := 3, pos := "slices.go:25", after := #[{ on := 6, ground := .data }], guard := none }) (v := ?_) rfl (by kernel_rfl) (by kernel_rfl) (by kernel_rfl) (fun _ _ _ h => h) rfl ?_ ?_); rotate_left; focus (intro W hW; (try dsimp only at hW); go_split_ands; go_simp; (try (simp (disch := omega) only [IntWalk.i64_in]; (try go_simp))); (try (split; (next => omega); (try go_simp))); try rfl; done))
          try simp only [Act.put, List.setIfInBounds_toArray, List.set_cons_zero, List.set_cons_succ, Nat.reduceAdd]
          ((refine reg_yes (i := 8) (oi := { dst := some 24, op := .binOp .neq 3 (.tmp 19) (.tmp 23) 3, type := 4, pos := "slices.go:25", after := #[{ on := 3, ground := .data }, { on := 7, ground := .data }], guard := none }) (v := ?_) rfl (by kernel_rfl) (by kernel_rfl) (by kernel_rfl) (fun _ _ _ h => h) rfl ?_ ?_); rotate_left; focus (intro W hW; (try dsimp only at hW); go_split_ands; go_simp; (try (simp (disch := omega) only [IntWalk.i64_in]; (try go_simp))); (try (split; (next => omega); (try go_simp))); try rfl; done))
          try simp only [Act.put, List.setIfInBounds_toArray, List.set_cons_zero, List.set_cons_succ, Nat.reduceAdd]
          refine reg_done (by kernel_rfl) (show (fun W => W.cell? ⟨b, o + k, none⟩ = some (.int .i64 x) ∧ W.cell? ⟨b', o' + k, none⟩ = some (.int .i64 y)) wr.drew from ⟨ha0, hb0⟩) ?_
          have hcd := hc.drew
          go_wp2_with (with_reducible first | refine stop_append ?_ | refine stop_copy ?_ | refine stop_make ?_ | refine stop_lookup ?_ | refine stop_update ?_ | refine stop_slice ?_ | refine stop_range ?_ | refine stop_next ?_ | refine stop_convert ⟨_, rfl⟩ ?_ | refine stop_convertB ⟨_, _, _, rfl⟩ ?_ | refine stop_eqSlice ⟨_, _, rfl⟩ ?_)
          go_ret
          exact ⟨by simp [Hxy.out Hq.out], hcd⟩
      · obtain rfl : k = xs.length := by omega
        have he := He.out
        rw [List.take_length, Hlen.out, List.take_length] at he
        have Heq := Lib.hid he
        clear he He
        go_wp2_with (with_reducible first | refine stop_append ?_ | refine stop_copy ?_ | refine stop_make ?_ | refine stop_lookup ?_ | refine stop_update ?_ | refine stop_slice ?_ | refine stop_range ?_ | refine stop_next ?_ | refine stop_convert ⟨_, rfl⟩ ?_ | refine stop_convertB ⟨_, _, _, rfl⟩ ?_ | refine stop_eqSlice ⟨_, _, rfl⟩ ?_)
        go_ret
        exact ⟨by simp [Heq.out], hc⟩
  · have hne : ((xs.length : Int) != ys.length) = true := by simp; omega
    have hne2 : ((xs.length : Int) == ys.length) = false := by simp; omega
    have Hn := Lib.hid (show xs ≠ ys from fun e => hlen (by rw [e]))
    clear hlen
    go_enter Try.func57, Try.ntmps57
    go_wp2_with (with_reducible first | refine stop_append ?_ | refine stop_copy ?_ | refine stop_make ?_ | refine stop_lookup ?_ | refine stop_update ?_ | refine stop_slice ?_ | refine stop_range ?_ | refine stop_next ?_ | refine stop_convert ⟨_, rfl⟩ ?_ | refine stop_convertB ⟨_, _, _, rfl⟩ ?_ | refine stop_eqSlice ⟨_, _, rfl⟩ ?_)
    go_ret
    exact ⟨by simp [Hn.out], Chg.refl _ _⟩
theorem vcovers_any (F G : Nat → Prop) (v u : Value) (xs ys : List Int) (w : World) (hs : Sl F w v xs) (ht : Sl G w u ys) (hl : xs.length * 8 ≤ 140737488355328) (hl' : ys.length * 8 ≤ 140737488355328) :
    Calls Try.prog 43 #[v, u] w fun e w' => e = .returned (.bool (coversB xs ys)) ∧ Chg No w w' := by
  have H := Lib.hid (vmax_any F G v u xs ys w hs ht hl hl')
  have Hs := Lib.hid hs
  obtain ⟨A, c, rfl, hc, _⟩ := id hs
  obtain ⟨B, d, rfl, hd, _⟩ := id ht
  clear hs ht
  by_cases hk : kindB xs ys = true
  · have Hk := Lib.hid (show coversB xs ys = decide (List.zipWith max xs ys = xs) by simp [coversB, hk])
    obtain ⟨⟨hx, _⟩, he⟩ : (vright xs = true ∧ vright ys = true) ∧ xs.length = ys.length := by simpa [kindB] using hk
    have h8 := (vright_iff.1 hx).2.1
    have hb : bothF max xs ys = some (List.zipWith max xs ys) := by simp [bothF, hk]
    have hzl : (List.zipWith max xs ys).length ≤ 8 := by simp; omega
    rw [hb] at H
    clear hk hx he hb
    generalize List.zipWith max xs ys = z at H Hk hzl
    go_enter Try.func43, Try.ntmps43
    go_wp2_with (with_reducible first | refine stop_append ?_ | refine stop_copy ?_ | refine stop_make ?_ | refine stop_lookup ?_ | refine stop_update ?_ | refine stop_slice ?_ | refine stop_range ?_ | refine stop_next ?_ | refine stop_convert ⟨_, rfl⟩ ?_ | refine stop_convertB ⟨_, _, _, rfl⟩ ?_ | refine stop_eqSlice ⟨_, _, rfl⟩ ?_)
    refine H.out.mono ?_
    rintro e w1 ⟨hc1, ⟨z', hz', v', rfl, hz⟩ | ⟨h, _⟩⟩
    · obtain rfl : z = z' := by simpa using hz'
      have Hz := Lib.hid (vequal_any _ _ _ _ _ _ _ hz (Hs.out.keepNo hc1) (by omega) (by omega))
      obtain ⟨A', c', rfl⟩ := hz.slice
      clear hz hz'
      go_wp2_with (with_reducible first | refine stop_append ?_ | refine stop_copy ?_ | refine stop_make ?_ | refine stop_lookup ?_ | refine stop_update ?_ | refine stop_slice ?_ | refine stop_range ?_ | refine stop_next ?_ | refine stop_convert ⟨_, rfl⟩ ?_ | refine stop_convertB ⟨_, _, _, rfl⟩ ?_ | refine stop_eqSlice ⟨_, _, rfl⟩ ?_)
      refine Hz.out.mono ?_
      rintro e w2 ⟨rfl, hc2⟩
      go_wp2_with (with_reducible first | refine stop_append ?_ | refine stop_copy ?_ | refine stop_make ?_ | refine stop_lookup ?_ | refine stop_update ?_ | refine stop_slice ?_ | refine stop_range ?_ | refine stop_next ?_ | refine stop_convert ⟨_, rfl⟩ ?_ | refine stop_convertB ⟨_, _, _, rfl⟩ ?_ | refine stop_eqSlice ⟨_, _, rfl⟩ ?_)
      go_ret
      rw [Hk.out]
      exact ⟨rfl, hc1.trans hc2⟩
    · cases h
  · have hk : kindB xs ys = false := by simpa using hk
    have Hk := Lib.hid (show coversB xs ys = false by simp [coversB, hk])
    have hb : bothF max xs ys = none := by simp [bothF, hk]
    rw [hb] at H
    clear hk hb
    go_enter Try.func43, Try.ntmps43
    go_wp2_with (with_reducible first | refine stop_append ?_ | refine stop_copy ?_ | refine stop_make ?_ | refine stop_lookup ?_ | refine stop_update ?_ | refine stop_slice ?_ | refine stop_range ?_ | refine stop_next ?_ | refine stop_convert ⟨_, rfl⟩ ?_ | refine stop_convertB ⟨_, _, _, rfl⟩ ?_ | refine stop_eqSlice ⟨_, _, rfl⟩ ?_)
    refine H.out.mono ?_
    rintro e w1 ⟨hc1, ⟨z', hz', _⟩ | ⟨_, rfl⟩⟩
    · cases hz'
    · go_wp2_with (with_reducible first | refine stop_append ?_ | refine stop_copy ?_ | refine stop_make ?_ | refine stop_lookup ?_ | refine stop_update ?_ | refine stop_slice ?_ | refine stop_range ?_ | refine stop_next ?_ | refine stop_convert ⟨_, rfl⟩ ?_ | refine stop_convertB ⟨_, _, _, rfl⟩ ?_ | refine stop_eqSlice ⟨_, _, rfl⟩ ?_)
      go_ret
      rw [Hk.out]
      exact ⟨rfl, hc1⟩
theorem veq_nil_run {t e : TypeId} (h : Try.prog.underlying t = some (.slice e)) (A : Option Addr) (n c : Nat) (W : World) : (binOp .eql t (.slice A n c) (.slice none 0 0)).run Try.prog W = .ok (.bool A.isNone) W := by
  unfold binOp; simp [go_sem, run_equal_slice_nil W t e A n c h]
set_option maxRecDepth 100000 in
set_option maxHeartbeats 1000000 in
theorem vclone_any (F : Nat → Prop) (v : Value) (ws : List Int) (w : World) (h : Sl F w v ws) (hl : ws.length ≤ 1000000) :
    Calls Try.prog 31 #[v] w fun e w' => ∃ v', e = .returned v' ∧ Chg No w w' ∧ Sl (Lt w.heap.size) w' v' ws := by
  obtain ⟨A, c, rfl⟩ := h.slice
  have heq := fun n => veq_nil_run Try.underlying22 A n c
  cases A with
  | none =>
    have hnil : ws = [] := by
      obtain ⟨A', c', e, _, h | ⟨b, o, rfl, _⟩⟩ := h
      · exact h
      · cases e
    subst hnil
    go_enter Try.func31, Try.ntmps31
    go_wp2_with (with_reducible first | refine stop_append ?_ | refine stop_copy ?_ | refine stop_make ?_ | refine stop_lookup ?_ | refine stop_update ?_ | refine stop_slice ?_ | refine stop_range ?_ | refine stop_next ?_ | refine stop_convert ⟨_, rfl⟩ ?_ | refine stop_convertB ⟨_, _, _, rfl⟩ ?_)
    go_ret
    exact ⟨_, rfl, Chg.refl _ _, Sl.nil _ _ _ _⟩
  | some a =>
    have hc0 := (Chg.refl No w).alloc (.cells #[] 3)
    have h1 := h.keepNo hc0
    have own0 := Own.made0 (α := Int) No w 3
    go_enter Try.func31, Try.ntmps31
    go_wp2_with (with_reducible first | refine stop_append ?_ | refine stop_copy ?_ | refine stop_make ?_ | refine stop_lookup ?_ | refine stop_update ?_ | refine stop_slice ?_ | refine stop_range ?_ | refine stop_next ?_ | refine stop_convert ⟨_, rfl⟩ ?_ | refine stop_convertB ⟨_, _, _, rfl⟩ ?_)
    generalize hw0 : w.alloc (.cells #[] 3) = w0 at *
    have hsz : w.heap.size ≤ w0.heap.size := hc0.size
    refine step_append_flat (α := Int) (ys := ws) Try.underlying22 vinfo_int rfl own0 rfl rfl h1 (by simp; omega) (by simp; omega) hsz ?_
    intro v1 w1 hown hg
    rw [List.nil_append] at hown
    have hc1 : Chg No w w1 := hc0.grew hg (fun k hk => by simp [Value.ownBlock] at hk; omega)
    have hsl : Sl (Lt w.heap.size) w1 v1 ws := hown.slFlat (fun k hk f => by have := (hown.lt k hk).1; simp only [Lt] at f; omega)
    have Hsl := Lib.hid hsl
    clear hsl hown hg own0 h1
    go_wp2_with (with_reducible first | refine stop_append ?_ | refine stop_copy ?_ | refine stop_make ?_ | refine stop_lookup ?_ | refine stop_update ?_ | refine stop_slice ?_ | refine stop_range ?_ | refine stop_next ?_ | refine stop_convert ⟨_, rfl⟩ ?_ | refine stop_convertB ⟨_, _, _, rfl⟩ ?_ | refine stop_eqSlice ⟨_, _, rfl⟩ ?_)
    go_ret
    exact ⟨_, rfl, hc1, Hsl.out⟩
theorem vzero_yes (n : Nat) (w : World) (h1 : 1 ≤ n) (h8 : n ≤ 8) : Calls Try.prog 44 #[.int .i64 n] w fun e w' => ∃ a c, e = .returned (.slice (some a) n c) ∧ Chg No w w' ∧ Sl (Lt w.heap.size) w' (.slice (some a) n c) (List.replicate n (0 : Int)) := by
  go_enter Try.func44, Try.ntmps44
  go_wp2_with (with_reducible first | refine stop_append ?_ | refine stop_copy ?_ | refine stop_make ?_ | refine stop_lookup ?_ | refine stop_update ?_ | refine stop_slice ?_ | refine stop_range ?_ | refine stop_next ?_ | refine stop_convert ⟨_, rfl⟩ ?_ | refine stop_convertB ⟨_, _, _, rfl⟩ ?_ | refine stop_eqSlice ⟨_, _, rfl⟩ ?_)
  refine step_make (α := Int) No w.heap.size 0 Try.underlying22 vinfo_int rfl (by decide) rfl rfl (by omega) (by omega) (Nat.le_refl _) ?_
  intro v w1 hown hob hc1
  have hsl : Sl (Lt w.heap.size) w1 v (List.replicate n (0 : Int)) := hown.slFlat (fun k hk f => by have := (hown.lt k hk).1; simp only [Lt] at f; omega)
  obtain ⟨A, c, rfl⟩ := hown.slice
  rw [List.length_replicate] at hsl hob ⊢
  have ha : ∃ a, A = some a := by
    cases A with
    | none => simp [Value.ownBlock] at hob
    | some a => exact ⟨a, rfl⟩
  obtain ⟨a, rfl⟩ := ha
  have Hsl := Lib.hid hsl
  clear hsl hown hob
  go_wp2_with (with_reducible first | refine stop_append ?_ | refine stop_copy ?_ | refine stop_make ?_ | refine stop_lookup ?_ | refine stop_update ?_ | refine stop_slice ?_ | refine stop_range ?_ | refine stop_next ?_ | refine stop_convert ⟨_, rfl⟩ ?_ | refine stop_convertB ⟨_, _, _, rfl⟩ ?_ | refine stop_eqSlice ⟨_, _, rfl⟩ ?_)
  go_ret
  exact ⟨_, _, rfl, hc1, Hsl.out⟩
end Go.Proofs.Yticimjplegbagaa


/- Walks of package entry: within, Right. -/
set_option linter.unusedVariables false
set_option linter.unusedSimpArgs false
namespace Go.Proofs.Yticimjplegbagaa
open Go.RowKit Cb

theorem ewithin_any (n a b : Int) (w : World) : Calls Try.prog 60 #[.int .i64 n, .int .i64 a, .int .i64 b] w fun e w' => e = .returned (.bool (wiB n a b)) ∧ w = w' := by
  have hd : ∀ r, wiB n a b = r → Hid (wiB n a b = r) := fun _ h => h
  by_cases h : a ≤ n
  · have H := hd _ (by rw [wiB, decide_eq_true h, Bool.true_and])
    go_enter Try.func60, Try.ntmps60
    go_wp2
    go_ret
    rw [H.out]; exact ⟨rfl, rfl⟩
  · have H := hd _ (by rw [wiB, decide_eq_false h, Bool.false_and])
    go_enter Try.func60, Try.ntmps60
    go_wp2
    go_ret
    rw [H.out]; exact ⟨rfl, rfl⟩
/-- An entry's value, its cut a slice value. -/
def entV (e : Ent) (v : Value) : Value := .agg #[.int .i64 e.1, .int .i64 e.2.1, v, .int .i64 e.2.2.2.1, .int .i64 e.2.2.2.2.1, .int .i64 e.2.2.2.2.2]
set_option maxRecDepth 100000 in
set_option maxHeartbeats 1000000 in
theorem eright_any (F : Nat → Prop) (e : Ent) (v : Value) (w : World) (hs : Sl F w v e.2.2.1) (hl : e.2.2.1.length * 8 ≤ 140737488355328) :
    Calls Try.prog 42 #[entV e v] w fun x w' => x = .returned (.bool (entR e)) ∧ Chg No w w' := by
  obtain ⟨n, k, cut, tag, t, p⟩ := e
  simp only at hs hl
  obtain ⟨A, c, rfl, hc, _⟩ := id hs
  have o1 := alloc_obj w (.cells #[.int .i64 n, .int .i64 k, .slice A cut.length c, .int .i64 tag, .int .i64 t, .int .i64 p] 76)
  have hc0 := (Chg.refl No w).alloc (.cells #[.int .i64 n, .int .i64 k, .slice A cut.length c, .int .i64 tag, .int .i64 t, .int .i64 p] 76)
  have Hv := Lib.hid (fun W hW => vright_any F _ _ W (hs.keepNo hW) hl)
  have Hw1 := Lib.hid (ewithin_any n 1 1099511627776)
  have Hw2 := Lib.hid (ewithin_any tag 0 1073741824)
  have Hw3 := Lib.hid (ewithin_any t 1 64)
  have Hw4 := Lib.hid (ewithin_any p 0 1099511627776)
  have H := Lib.hid (show (wiB n 1 1099511627776 && (if k = 1 then vright cut && (decide (tag = 0) && (decide (t = 0) && decide (p = 0))) else if k = 2 then decide (cut.length = 0) && (wiB tag 0 1073741824 && (wiB t 1 64 && wiB p 0 1099511627776)) else false)) = entR (n, k, cut, tag, t, p) from rfl)
  unfold entV
  simp only
  generalize entR (n, k, cut, tag, t, p) = r at H ⊢
  generalize wiB n 1 1099511627776 = b1 at Hw1 H
  generalize wiB tag 0 1073741824 = b2 at Hw2 H
  generalize wiB t 1 64 = b3 at Hw3 H
  generalize wiB p 0 1099511627776 = b4 at Hw4 H
  generalize vright cut = b5 at Hv H
  clear hs
  cases b1 with
  | false =>
    go_enter Try.func42, Try.ntmps42
    go_wp2_with (with_reducible first | refine stop_append ?_ | refine stop_copy ?_ | refine stop_make ?_ | refine stop_lookup ?_ | refine stop_update ?_ | refine stop_slice ?_ | refine stop_range ?_ | refine stop_next ?_ | refine stop_convert ⟨_, rfl⟩ ?_ | refine stop_convertB ⟨_, _, _, rfl⟩ ?_ | refine stop_eqSlice ⟨_, _, rfl⟩ ?_)
    generalize w.alloc (.cells #[.int .i64 n, .int .i64 k, .slice A cut.length c, .int .i64 tag, .int .i64 t, .int .i64 p] 76) = w0 at *
    generalize w.heap.size = q at *
    refine (Hw1.out _).mono ?_
    rintro x w1 ⟨rfl, rfl⟩
    go_wp2_with (with_reducible first | refine stop_append ?_ | refine stop_copy ?_ | refine stop_make ?_ | refine stop_lookup ?_ | refine stop_update ?_ | refine stop_slice ?_ | refine stop_range ?_ | refine stop_next ?_ | refine stop_convert ⟨_, rfl⟩ ?_ | refine stop_convertB ⟨_, _, _, rfl⟩ ?_ | refine stop_eqSlice ⟨_, _, rfl⟩ ?_)
    go_ret
    exact ⟨by rw [← H.out]; rfl, hc0⟩
  | true =>
    by_cases hk1 : k = 1
    · subst hk1
      cases b5 with
      | false =>
        go_enter Try.func42, Try.ntmps42
        go_wp2_with (with_reducible first | refine stop_append ?_ | refine stop_copy ?_ | refine stop_make ?_ | refine stop_lookup ?_ | refine stop_update ?_ | refine stop_slice ?_ | refine stop_range ?_ | refine stop_next ?_ | refine stop_convert ⟨_, rfl⟩ ?_ | refine stop_convertB ⟨_, _, _, rfl⟩ ?_ | refine stop_eqSlice ⟨_, _, rfl⟩ ?_)
        generalize w.alloc (.cells #[.int .i64 n, .int .i64 1, .slice A cut.length c, .int .i64 tag, .int .i64 t, .int .i64 p] 76) = w0 at *
        generalize w.heap.size = q at *
        refine (Hw1.out _).mono ?_
        rintro x w1 ⟨rfl, rfl⟩
        have c1 := cell_obj (i := 1) o1 rfl
        have c2 := cell_obj (i := 2) o1 rfl
        go_wp2_with (with_reducible first | refine stop_append ?_ | refine stop_copy ?_ | refine stop_make ?_ | refine stop_lookup ?_ | refine stop_update ?_ | refine stop_slice ?_ | refine stop_range ?_ | refine stop_next ?_ | refine stop_convert ⟨_, rfl⟩ ?_ | refine stop_convertB ⟨_, _, _, rfl⟩ ?_ | refine stop_eqSlice ⟨_, _, rfl⟩ ?_)
        refine (Hv.out _ hc0).mono ?_
        rintro x w2 ⟨rfl, hc2⟩
        go_wp2_with (with_reducible first | refine stop_append ?_ | refine stop_copy ?_ | refine stop_make ?_ | refine stop_lookup ?_ | refine stop_update ?_ | refine stop_slice ?_ | refine stop_range ?_ | refine stop_next ?_ | refine stop_convert ⟨_, rfl⟩ ?_ | refine stop_convertB ⟨_, _, _, rfl⟩ ?_ | refine stop_eqSlice ⟨_, _, rfl⟩ ?_)
        go_ret
        exact ⟨by rw [← H.out]; simp, hc0.trans hc2⟩
      | true =>
        go_enter Try.func42, Try.ntmps42
        go_wp2_with (with_reducible first | refine stop_append ?_ | refine stop_copy ?_ | refine stop_make ?_ | refine stop_lookup ?_ | refine stop_update ?_ | refine stop_slice ?_ | refine stop_range ?_ | refine stop_next ?_ | refine stop_convert ⟨_, rfl⟩ ?_ | refine stop_convertB ⟨_, _, _, rfl⟩ ?_ | refine stop_eqSlice ⟨_, _, rfl⟩ ?_)
        generalize w.alloc (.cells #[.int .i64 n, .int .i64 1, .slice A cut.length c, .int .i64 tag, .int .i64 t, .int .i64 p] 76) = w0 at *
        generalize w.heap.size = q at *
        refine (Hw1.out _).mono ?_
        rintro x w1 ⟨rfl, rfl⟩
        have c1 := cell_obj (i := 1) o1 rfl
        have c2 := cell_obj (i := 2) o1 rfl
        go_wp2_with (with_reducible first | refine stop_append ?_ | refine stop_copy ?_ | refine stop_make ?_ | refine stop_lookup ?_ | refine stop_update ?_ | refine stop_slice ?_ | refine stop_range ?_ | refine stop_next ?_ | refine stop_convert ⟨_, rfl⟩ ?_ | refine stop_convertB ⟨_, _, _, rfl⟩ ?_ | refine stop_eqSlice ⟨_, _, rfl⟩ ?_)
        refine (Hv.out _ hc0).mono ?_
        rintro x w2 ⟨rfl, hc2⟩
        have c3 := hc2.cell (cell_obj (i := 3) o1 rfl) (not_no _)
        have c4 := hc2.cell (cell_obj (i := 4) o1 rfl) (not_no _)
        have c5 := hc2.cell (cell_obj (i := 5) o1 rfl) (not_no _)
        by_cases ht : tag = 0
        · subst ht
          by_cases h2 : t = 0 ∧ p = 0
          · obtain ⟨rfl, rfl⟩ := h2
            go_wp2_with (with_reducible first | refine stop_append ?_ | refine stop_copy ?_ | refine stop_make ?_ | refine stop_lookup ?_ | refine stop_update ?_ | refine stop_slice ?_ | refine stop_range ?_ | refine stop_next ?_ | refine stop_convert ⟨_, rfl⟩ ?_ | refine stop_convertB ⟨_, _, _, rfl⟩ ?_ | refine stop_eqSlice ⟨_, _, rfl⟩ ?_)
            go_ret
            exact ⟨by rw [← H.out]; simp, hc0.trans hc2⟩
          · have h2' : (t == 0 && p == 0) = false := by simpa using h2
            go_wp2_with (with_reducible first | refine stop_append ?_ | refine stop_copy ?_ | refine stop_make ?_ | refine stop_lookup ?_ | refine stop_update ?_ | refine stop_slice ?_ | refine stop_range ?_ | refine stop_next ?_ | refine stop_convert ⟨_, rfl⟩ ?_ | refine stop_convertB ⟨_, _, _, rfl⟩ ?_ | refine stop_eqSlice ⟨_, _, rfl⟩ ?_)
            all_goals
              go_ret
              exact ⟨by rw [← H.out]; simp; exact fun a b => h2 ⟨a, b⟩, hc0.trans hc2⟩
        · have ht1 : (tag == 0) = false := by simpa using ht
          go_wp2_with (with_reducible first | refine stop_append ?_ | refine stop_copy ?_ | refine stop_make ?_ | refine stop_lookup ?_ | refine stop_update ?_ | refine stop_slice ?_ | refine stop_range ?_ | refine stop_next ?_ | refine stop_convert ⟨_, rfl⟩ ?_ | refine stop_convertB ⟨_, _, _, rfl⟩ ?_ | refine stop_eqSlice ⟨_, _, rfl⟩ ?_)
          go_ret
          exact ⟨by rw [← H.out]; simp [ht], hc0.trans hc2⟩
    · have hk1' : (k == 1) = false := by simpa using hk1
      have Hk1 := Lib.hid hk1
      clear hk1
      by_cases hk2 : k = 2
      · subst hk2
        by_cases hcut : cut.length = 0
        · have Hcut := Lib.hid hcut
          have hcut1 : ((cut.length : Int) == 0) = true := by simp; simpa using hcut
          clear hcut
          cases b2 with
          | false =>
            go_enter Try.func42, Try.ntmps42
            go_wp2_with (with_reducible first | refine stop_append ?_ | refine stop_copy ?_ | refine stop_make ?_ | refine stop_lookup ?_ | refine stop_update ?_ | refine stop_slice ?_ | refine stop_range ?_ | refine stop_next ?_ | refine stop_convert ⟨_, rfl⟩ ?_ | refine stop_convertB ⟨_, _, _, rfl⟩ ?_ | refine stop_eqSlice ⟨_, _, rfl⟩ ?_)
            generalize w.alloc (.cells #[.int .i64 n, .int .i64 2, .slice A cut.length c, .int .i64 tag, .int .i64 t, .int .i64 p] 76) = w0 at *
            generalize w.heap.size = q at *
            refine (Hw1.out _).mono ?_
            rintro x w1 ⟨rfl, rfl⟩
            have c1 := cell_obj (i := 1) o1 rfl
            have c2 := cell_obj (i := 2) o1 rfl
            have c3 := cell_obj (i := 3) o1 rfl
            go_wp2_with (with_reducible first | refine stop_append ?_ | refine stop_copy ?_ | refine stop_make ?_ | refine stop_lookup ?_ | refine stop_update ?_ | refine stop_slice ?_ | refine stop_range ?_ | refine stop_next ?_ | refine stop_convert ⟨_, rfl⟩ ?_ | refine stop_convertB ⟨_, _, _, rfl⟩ ?_ | refine stop_eqSlice ⟨_, _, rfl⟩ ?_)
            refine (Hw2.out _).mono ?_
            rintro x w2 ⟨rfl, rfl⟩
            go_wp2_with (with_reducible first | refine stop_append ?_ | refine stop_copy ?_ | refine stop_make ?_ | refine stop_lookup ?_ | refine stop_update ?_ | refine stop_slice ?_ | refine stop_range ?_ | refine stop_next ?_ | refine stop_convert ⟨_, rfl⟩ ?_ | refine stop_convertB ⟨_, _, _, rfl⟩ ?_ | refine stop_eqSlice ⟨_, _, rfl⟩ ?_)
            go_ret
            exact ⟨by rw [← H.out]; simp, hc0⟩
          | true =>
            cases b3 with
            | false =>
              go_enter Try.func42, Try.ntmps42
              go_wp2_with (with_reducible first | refine stop_append ?_ | refine stop_copy ?_ | refine stop_make ?_ | refine stop_lookup ?_ | refine stop_update ?_ | refine stop_slice ?_ | refine stop_range ?_ | refine stop_next ?_ | refine stop_convert ⟨_, rfl⟩ ?_ | refine stop_convertB ⟨_, _, _, rfl⟩ ?_ | refine stop_eqSlice ⟨_, _, rfl⟩ ?_)
              generalize w.alloc (.cells #[.int .i64 n, .int .i64 2, .slice A cut.length c, .int .i64 tag, .int .i64 t, .int .i64 p] 76) = w0 at *
              generalize w.heap.size = q at *
              refine (Hw1.out _).mono ?_
              rintro x w1 ⟨rfl, rfl⟩
              have c1 := cell_obj (i := 1) o1 rfl
              have c2 := cell_obj (i := 2) o1 rfl
              have c3 := cell_obj (i := 3) o1 rfl
              have c4 := cell_obj (i := 4) o1 rfl
              go_wp2_with (with_reducible first | refine stop_append ?_ | refine stop_copy ?_ | refine stop_make ?_ | refine stop_lookup ?_ | refine stop_update ?_ | refine stop_slice ?_ | refine stop_range ?_ | refine stop_next ?_ | refine stop_convert ⟨_, rfl⟩ ?_ | refine stop_convertB ⟨_, _, _, rfl⟩ ?_ | refine stop_eqSlice ⟨_, _, rfl⟩ ?_)
              refine (Hw2.out _).mono ?_
              rintro x w2 ⟨rfl, rfl⟩
              go_wp2_with (with_reducible first | refine stop_append ?_ | refine stop_copy ?_ | refine stop_make ?_ | refine stop_lookup ?_ | refine stop_update ?_ | refine stop_slice ?_ | refine stop_range ?_ | refine stop_next ?_ | refine stop_convert ⟨_, rfl⟩ ?_ | refine stop_convertB ⟨_, _, _, rfl⟩ ?_ | refine stop_eqSlice ⟨_, _, rfl⟩ ?_)
              refine (Hw3.out _).mono ?_
              rintro x w3 ⟨rfl, rfl⟩
              go_wp2_with (with_reducible first | refine stop_append ?_ | refine stop_copy ?_ | refine stop_make ?_ | refine stop_lookup ?_ | refine stop_update ?_ | refine stop_slice ?_ | refine stop_range ?_ | refine stop_next ?_ | refine stop_convert ⟨_, rfl⟩ ?_ | refine stop_convertB ⟨_, _, _, rfl⟩ ?_ | refine stop_eqSlice ⟨_, _, rfl⟩ ?_)
              go_ret
              exact ⟨by rw [← H.out]; simp, hc0⟩
            | true =>
              go_enter Try.func42, Try.ntmps42
              go_wp2_with (with_reducible first | refine stop_append ?_ | refine stop_copy ?_ | refine stop_make ?_ | refine stop_lookup ?_ | refine stop_update ?_ | refine stop_slice ?_ | refine stop_range ?_ | refine stop_next ?_ | refine stop_convert ⟨_, rfl⟩ ?_ | refine stop_convertB ⟨_, _, _, rfl⟩ ?_ | refine stop_eqSlice ⟨_, _, rfl⟩ ?_)
              generalize w.alloc (.cells #[.int .i64 n, .int .i64 2, .slice A cut.length c, .int .i64 tag, .int .i64 t, .int .i64 p] 76) = w0 at *
              generalize w.heap.size = q at *
              refine (Hw1.out _).mono ?_
              rintro x w1 ⟨rfl, rfl⟩
              have c1 := cell_obj (i := 1) o1 rfl
              have c2 := cell_obj (i := 2) o1 rfl
              have c3 := cell_obj (i := 3) o1 rfl
              have c4 := cell_obj (i := 4) o1 rfl
              have c5 := cell_obj (i := 5) o1 rfl
              go_wp2_with (with_reducible first | refine stop_append ?_ | refine stop_copy ?_ | refine stop_make ?_ | refine stop_lookup ?_ | refine stop_update ?_ | refine stop_slice ?_ | refine stop_range ?_ | refine stop_next ?_ | refine stop_convert ⟨_, rfl⟩ ?_ | refine stop_convertB ⟨_, _, _, rfl⟩ ?_ | refine stop_eqSlice ⟨_, _, rfl⟩ ?_)
              refine (Hw2.out _).mono ?_
              rintro x w2 ⟨rfl, rfl⟩
              go_wp2_with (with_reducible first | refine stop_append ?_ | refine stop_copy ?_ | refine stop_make ?_ | refine stop_lookup ?_ | refine stop_update ?_ | refine stop_slice ?_ | refine stop_range ?_ | refine stop_next ?_ | refine stop_convert ⟨_, rfl⟩ ?_ | refine stop_convertB ⟨_, _, _, rfl⟩ ?_ | refine stop_eqSlice ⟨_, _, rfl⟩ ?_)
              refine (Hw3.out _).mono ?_
              rintro x w3 ⟨rfl, rfl⟩
              go_wp2_with (with_reducible first | refine stop_append ?_ | refine stop_copy ?_ | refine stop_make ?_ | refine stop_lookup ?_ | refine stop_update ?_ | refine stop_slice ?_ | refine stop_range ?_ | refine stop_next ?_ | refine stop_convert ⟨_, rfl⟩ ?_ | refine stop_convertB ⟨_, _, _, rfl⟩ ?_ | refine stop_eqSlice ⟨_, _, rfl⟩ ?_)
              refine (Hw4.out _).mono ?_
              rintro x w4 ⟨rfl, rfl⟩
              go_wp2_with (with_reducible first | refine stop_append ?_ | refine stop_copy ?_ | refine stop_make ?_ | refine stop_lookup ?_ | refine stop_update ?_ | refine stop_slice ?_ | refine stop_range ?_ | refine stop_next ?_ | refine stop_convert ⟨_, rfl⟩ ?_ | refine stop_convertB ⟨_, _, _, rfl⟩ ?_ | refine stop_eqSlice ⟨_, _, rfl⟩ ?_)
              go_ret
              exact ⟨by rw [← H.out]; simp [Hcut.out], hc0⟩
        · have hcut' : ((cut.length : Int) == 0) = false := by simp; simpa using hcut
          have Hcut := Lib.hid hcut
          go_enter Try.func42, Try.ntmps42
          go_wp2_with (with_reducible first | refine stop_append ?_ | refine stop_copy ?_ | refine stop_make ?_ | refine stop_lookup ?_ | refine stop_update ?_ | refine stop_slice ?_ | refine stop_range ?_ | refine stop_next ?_ | refine stop_convert ⟨_, rfl⟩ ?_ | refine stop_convertB ⟨_, _, _, rfl⟩ ?_ | refine stop_eqSlice ⟨_, _, rfl⟩ ?_)
          generalize w.alloc (.cells #[.int .i64 n, .int .i64 2, .slice A cut.length c, .int .i64 tag, .int .i64 t, .int .i64 p] 76) = w0 at *
          generalize w.heap.size = q at *
          refine (Hw1.out _).mono ?_
          rintro x w1 ⟨rfl, rfl⟩
          have c1 := cell_obj (i := 1) o1 rfl
          have c2 := cell_obj (i := 2) o1 rfl
          go_wp2_with (with_reducible first | refine stop_append ?_ | refine stop_copy ?_ | refine stop_make ?_ | refine stop_lookup ?_ | refine stop_update ?_ | refine stop_slice ?_ | refine stop_range ?_ | refine stop_next ?_ | refine stop_convert ⟨_, rfl⟩ ?_ | refine stop_convertB ⟨_, _, _, rfl⟩ ?_ | refine stop_eqSlice ⟨_, _, rfl⟩ ?_)
          go_ret
          exact ⟨by rw [← H.out]; have := Hcut.out; simp [this], hc0⟩
      · have hk2' : (k == 2) = false := by simpa using hk2
        have Hk2 := Lib.hid hk2
        clear hk2
        go_enter Try.func42, Try.ntmps42
        go_wp2_with (with_reducible first | refine stop_append ?_ | refine stop_copy ?_ | refine stop_make ?_ | refine stop_lookup ?_ | refine stop_update ?_ | refine stop_slice ?_ | refine stop_range ?_ | refine stop_next ?_ | refine stop_convert ⟨_, rfl⟩ ?_ | refine stop_convertB ⟨_, _, _, rfl⟩ ?_ | refine stop_eqSlice ⟨_, _, rfl⟩ ?_)
        generalize w.alloc (.cells #[.int .i64 n, .int .i64 k, .slice A cut.length c, .int .i64 tag, .int .i64 t, .int .i64 p] 76) = w0 at *
        generalize w.heap.size = q at *
        refine (Hw1.out _).mono ?_
        rintro x w1 ⟨rfl, rfl⟩
        have c1 := cell_obj (i := 1) o1 rfl
        go_wp2_with (with_reducible first | refine stop_append ?_ | refine stop_copy ?_ | refine stop_make ?_ | refine stop_lookup ?_ | refine stop_update ?_ | refine stop_slice ?_ | refine stop_range ?_ | refine stop_next ?_ | refine stop_convert ⟨_, rfl⟩ ?_ | refine stop_convertB ⟨_, _, _, rfl⟩ ?_ | refine stop_eqSlice ⟨_, _, rfl⟩ ?_)
        go_ret
        exact ⟨by rw [← H.out]; simp [Hk1.out, Hk2.out], hc0⟩
end Go.Proofs.Yticimjplegbagaa


/- More laws: guarded operations that stand still, a number of an own row is written. They speak of no program. -/
set_option linter.unusedVariables false
namespace Cb
open Go Go.RowKit
section
variable {α : Type} {P : Program} {rest : List Oper} {Q : Exit → Act → World → Prop} {a : Act} {w : World} {OPS : Array Oper}
end
/-- A number of a row of numbers of the call's own is read. -/
theorem Own.get1 {F : Nat → Prop} {w : World} {base : Nat} {T : TypeId} {g n c : Nat} {xs : List Int} (h : Own F w base T (.slice (some ⟨g, 0, none⟩) n c) xs) (k : Nat) (hk : k < xs.length) :
    w.cell? ⟨g, k, none⟩ = some (.int .i64 xs[k]) := by
  obtain ⟨b, o, d, e, _, _, rfl, ha⟩ := (h.slFlat (G := No) (fun _ _ => not_no _)).get k hk
  cases e
  have h0 := ha 0 _ rfl
  simp only [show Rep.n Int = 1 from rfl, Nat.mul_one, Nat.add_zero, Nat.zero_add] at h0
  exact h0
end Cb


/- Walks of package order and of its laws: entries in memory, mine, few, Of. -/
set_option linter.unusedVariables false
set_option linter.unusedSimpArgs false
namespace Go.Proofs.Yticimjplegbagaa
open Go.RowKit Cb

/-- An entry's cells. -/
def entC (e : Ent) (v : Value) : List Value := [.int .i64 e.1, .int .i64 e.2.1, v, .int .i64 e.2.2.2.1, .int .i64 e.2.2.2.2.1, .int .i64 e.2.2.2.2.2]
theorem ent_cs {F : Nat → Prop} {w : World} {e : Ent} {d : List Value} (h : Rep.cs F w e d) : ∃ v, d = entC e v ∧ Sl F w v e.2.2.1 := by
  obtain ⟨d1, d2, rfl, rfl, ⟨d3, d4, rfl, rfl, ⟨d5, d6, rfl, ⟨v, rfl, hv⟩, ⟨d7, d8, rfl, rfl, ⟨d9, d10, rfl, rfl, rfl⟩⟩⟩⟩⟩ := h
  exact ⟨v, rfl, hv⟩
theorem ent_mk {F : Nat → Prop} {w : World} (e : Ent) {v : Value} (h : Sl F w v e.2.2.1) : Rep.cs F w e (entC e v) :=
  ⟨[_], _, rfl, rfl, [_], _, rfl, rfl, [_], _, rfl, ⟨v, rfl, h⟩, [_], _, rfl, rfl, [_], [_], rfl, rfl, rfl⟩
theorem ent_n : Rep.n Ent = 6 := rfl
theorem info_ent : Info Try.prog 76 (.agg #[.int .i64 0, .int .i64 0, .slice none 0 0, .int .i64 0, .int .i64 0, .int .i64 0]) 6 64 := by unfold Info; kernel_rfl
/-- One entry of a row. -/
theorem ent_get {F : Nat → Prop} {w : World} {A : Option Addr} {n c : Nat} {l : List Ent} (h : Sl F w (.slice A n c) l) (k : Nat) (hk : k < l.length) :
    ∃ b o v, A = some ⟨b, o, none⟩ ∧ ¬ F b ∧ b < w.heap.size ∧ Sl F w v l[k].2.2.1 ∧ w.cell? ⟨b, o + k * 6, none⟩ = some (.int .i64 l[k].1) ∧ w.cell? ⟨b, o + k * 6 + 1, none⟩ = some (.int .i64 l[k].2.1) ∧ w.cell? ⟨b, o + k * 6 + 2, none⟩ = some v ∧
      w.cell? ⟨b, o + k * 6 + 3, none⟩ = some (.int .i64 l[k].2.2.2.1) ∧ w.cell? ⟨b, o + k * 6 + 4, none⟩ = some (.int .i64 l[k].2.2.2.2.1) ∧ w.cell? ⟨b, o + k * 6 + 5, none⟩ = some (.int .i64 l[k].2.2.2.2.2) := by
  obtain ⟨b, o, d, rfl, hF, hb, hd, ha⟩ := h.get k hk
  obtain ⟨v, rfl, hv⟩ := ent_cs hd
  exact ⟨b, o, v, rfl, hF, hb, hv, ha 0 _ rfl, ha 1 _ rfl, ha 2 _ rfl, ha 3 _ rfl, ha 4 _ rfl, ha 5 _ rfl⟩
theorem Sl.up {α : Type} [Rep α] {w : World} {v : Value} {xs : List α} (h : Sl No w v xs) {n : Nat} (hn : w.heap.size ≤ n) : Sl (Ge n) w v xs := h.weak (fun b hb g => by simp only [Ge] at g; omega)

end Go.Proofs.Yticimjplegbagaa


/- Maps: what a map holds, in the order in which its keys came; lookup, store, delete, len. They speak of no program. -/
set_option linter.unusedVariables false
set_option linter.unusedSimpArgs false
namespace Cb
open Go
variable {κ : Type} {β : Type} {P : Program} {w : World}

/-- Block r is a map that holds these keys and values. -/
def MapAt (w : World) (r : Nat) (kv : κ → Value) (vv : β → Value) (m : List (κ × β)) : Prop :=
  ∃ (es : Array MapEntry) (clk : Nat), w.heap[r]? = some (.map es clk) ∧ es.toList.map (fun e => (e.key, e.val)) = m.map (fun x => (kv x.1, vv x.2)) ∧
    es.toList.Pairwise (fun a b => a.born < b.born) ∧ ∀ e ∈ es.toList, e.born < clk
theorem MapAt.keep {kv : κ → Value} {vv : β → Value} {m : List (κ × β)} {F : Nat → Prop} {w' : World} {r : Nat} (h : MapAt w r kv vv m) (hc : Chg F w w') (hF : ¬ F r) : MapAt w' r kv vv m := by
  obtain ⟨es, clk, hh, h⟩ := h
  exact ⟨es, clk, hc.obj hh hF, h⟩
theorem MapAt.lt {kv : κ → Value} {vv : β → Value} {m : List (κ × β)} {r : Nat} (h : MapAt w r kv vv m) : r < w.heap.size := by
  obtain ⟨es, clk, hh, _⟩ := h; exact lt_of_heap hh
theorem MapAt.made (w : World) (kv : κ → Value) (vv : β → Value) : MapAt (w.alloc (.map #[] 0)) w.heap.size kv vv [] :=
  ⟨#[], 0, alloc_obj _ _, rfl, List.Pairwise.nil, fun _ h => by simp at h⟩

/-- What the model asks of keys of one type, all answered. -/
structure KeyLaw [DecidableEq κ] (P : Program) (K : TypeId) (kv : κ → Value) : Prop where
  check : ∀ b k w, (Instr.checkKey b 10000 K (kv k)).run P w = .ok () w
  same : ∀ k, Instr.sameBits 10000 (kv k) (kv k) = true
  find : ∀ k (ks : List κ) (es : List MapEntry) w, es.map (·.key) = ks.map kv → (Instr.findKey K (kv k) es).run P w = .ok ((ks.findIdx? (fun x => decide (x = k))).map (fun i => (i, (es.getD i default).val))) w

def mget [DecidableEq κ] (m : List (κ × β)) (k : κ) : Option β := (m.find? (fun x => decide (x.1 = k))).map (·.2)
def mset [DecidableEq κ] : List (κ × β) → κ → β → List (κ × β)
  | [], k, b => [(k, b)]
  | x :: m, k, b => if x.1 = k then (k, b) :: m else x :: mset m k b
theorem mget_mset [DecidableEq κ] (m : List (κ × β)) (k k' : κ) (b : β) : mget (mset m k b) k' = if k' = k then some b else mget m k' := by
  induction m with
  | nil => simp only [mset, mget, List.find?_cons, List.find?_nil]; by_cases h : k = k'; subst h; simp; rw [if_neg (fun e => h e.symm)]; simp [h]
  | cons x m ih =>
    obtain ⟨a, c⟩ := x
    simp only [mset]
    by_cases h : a = k
    · subst h
      rw [if_pos rfl]
      simp only [mget, List.find?_cons]
      by_cases h' : a = k'
      · subst h'; simp
      · rw [if_neg (fun e => h' e.symm)]; simp [h']
    · rw [if_neg h]
      simp only [mget, List.find?_cons] at ih ⊢
      by_cases h' : a = k'
      · subst h'; simp [h]
      · simpa [h'] using ih

theorem findIdx_mget [DecidableEq κ] (m : List (κ × β)) (k : κ) : ((m.map (·.1)).findIdx? (fun x => decide (x = k))) = none ∧ mget m k = none ∨
    ∃ i b, (m.map (·.1)).findIdx? (fun x => decide (x = k)) = some i ∧ m[i]? = some (k, b) ∧ mget m k = some b ∧ mset m k = fun c => m.set i (k, c) := by
  induction m with
  | nil => left; simp [mget]
  | cons x m ih =>
    obtain ⟨a, c⟩ := x
    by_cases h : a = k
    · right
      subst h
      exact ⟨0, c, by simp [List.findIdx?_cons], rfl, by simp [mget], by funext d; simp [mset]⟩
    · rcases ih with ⟨h1, h2⟩ | ⟨i, b, h1, h2, h3, h4⟩
      · left
        simp only [List.map_cons, List.findIdx?_cons, h, decide_false, Bool.false_eq_true, if_false, h1, mget, List.find?_cons] at h2 ⊢
        exact ⟨rfl, h2⟩
      · right
        refine ⟨i + 1, b, ?_, by simpa using h2, ?_, ?_⟩
        · simp only [List.map_cons, List.findIdx?_cons, h, decide_false, Bool.false_eq_true, if_false, h1]; rfl
        · simp only [mget, List.find?_cons, h, decide_false] at h3 ⊢; exact h3
        · funext d; simp only [mset, h, if_false, List.set_cons_succ, h4]
theorem mset_new [DecidableEq κ] (m : List (κ × β)) (k : κ) (b : β) (h : mget m k = none) : mset m k b = m ++ [(k, b)] := by
  induction m with
  | nil => rfl
  | cons x m ih =>
    obtain ⟨a, c⟩ := x
    by_cases h' : a = k
    · subst h'; simp [mget] at h
    · simp only [mget, List.find?_cons, h', decide_false] at h
      simp only [mset, h', if_false, List.cons_append]; rw [ih h]

theorem keyLaw_int {K : TypeId} {q : IntKind} (hK : P.underlying K = some (.int q)) : KeyLaw P K (Value.int q) where
  check b k w := by rw [show (10000 : Nat) = 9999 + 1 from rfl, Instr.checkKey]; simp only [Sem.run_bind, run_underlying hK, Result.andThen_ok, Sem.run_pure]
  same k := by rw [show (10000 : Nat) = 9999 + 1 from rfl]; simp only [Instr.sameBits, beq_self_eq_true, Bool.and_self]
  find k ks es w he := by
    have key : ∀ (es : List MapEntry) (ks : List Int) (i : Nat), es.map (·.key) = ks.map (Value.int q) →
        Instr.findNow (.int q) (.int q k) es i = some ((ks.findIdx? (fun x => decide (x = k))).map (fun j => (i + j, (es.getD j default).val))) := by
      intro es
      induction es with
      | nil => intro ks i h; obtain rfl : ks = [] := by simpa using h.symm
               simp [Instr.findNow]
      | cons e es ih =>
        intro ks i h
        cases ks with
        | nil => simp at h
        | cons x ks =>
          simp only [List.map_cons, List.cons.injEq] at h
          simp only [Instr.findNow, h.1, Instr.sameNow, if_true]
          by_cases hx : x = k
          · subst hx; simp [List.findIdx?_cons]
          · have : (k == x) = false := by simp; exact fun h => hx h.symm
            rw [this]; simp only
            rw [ih ks (i + 1) h.2]
            simp only [List.findIdx?_cons, hx, decide_false, Bool.false_eq_true, if_false, Option.map_map]
            congr 1
            cases ks.findIdx? (fun x => decide (x = k)) with
            | none => rfl
            | some j => simp; omega
    simp only [Instr.findKey, Sem.run_bind, run_underlying hK, Result.andThen_ok, key es ks 0 he]
    simp

theorem run_getObj {r : Nat} {es : Array MapEntry} {clk : Nat} (h : w.heap[r]? = some (.map es clk)) : (getObj r).run P w = .ok (.map es clk) w := by
  unfold getObj; simp only [Sem.run, h]
theorem run_setObj {r : Nat} {es : Array MapEntry} {clk : Nat} (h : w.heap[r]? = some (.map es clk)) (o : Obj) : (setObj r o).run P w = .ok () { w with heap := w.heap.setIfInBounds r o } := by
  unfold setObj; simp only [Sem.run, h]
/-- v, ok := m[k] and v := m[k]. -/
theorem run_lookup [DecidableEq κ] {T K E : TypeId} {kv : κ → Value} {vv : β → Value} {m : List (κ × β)} {r : Nat} {z : Value} (KL : KeyLaw P K kv) (hT : P.underlying T = some (.map K E)) (hz : (P.info? E).bind (·.zero) = some z)
    (h : MapAt w r kv vv m) (k : κ) (ok : Bool) :
    (Instr.lookup T (.map (some r)) (kv k) ok).run P w = .ok (if ok then .tuple #[((mget m k).map vv).getD z, .bool (mget m k).isSome] else ((mget m k).map vv).getD z) w := by
  obtain ⟨es, clk, hh, hm, _⟩ := h
  have hk : es.toList.map (·.key) = (m.map (·.1)).map kv := by
    have := congrArg (List.map (·.1)) hm; simpa [List.map_map, Function.comp_def] using this
  have hf := KL.find k (m.map (·.1)) es.toList w hk
  have hzero : (zeroValue E).run P w = .ok z w := by
    cases hi : P.info? E with
    | none => simp [hi] at hz
    | some i => simp [hi] at hz; simp [zeroValue, typeInfo, hi, hz]
  rcases findIdx_mget m k with ⟨h1, h2⟩ | ⟨i, b, h1, h2, h3, _⟩
  · rw [h1] at hf
    cases ok <;> simp only [Instr.lookup, Sem.run_bind, run_underlying hT, Result.andThen_ok, run_getObj hh, Sem.run_pure, KL.check, hf, hzero, h2, Option.map_none, Option.getD_none, Option.isSome_none, if_true, Bool.false_eq_true, if_false]
  · rw [h1] at hf
    have hv : (es.toList.getD i default).val = vv b := by
      have := congrArg (fun l => l[i]?) hm
      simp only [List.getElem?_map, h2, Option.map_some] at this
      cases he : es.toList[i]? with
      | none => rw [he] at this; simp at this
      | some e =>
        rw [he] at this
        simp only [Option.map_some, Option.some.injEq, Prod.mk.injEq] at this
        rw [List.getD_eq_getElem?_getD, he]; exact this.2
    rw [Option.map_some, hv] at hf
    cases ok <;> simp only [Instr.lookup, Sem.run_bind, run_underlying hT, Result.andThen_ok, run_getObj hh, Sem.run_pure, KL.check, hf, h3, Option.map_some, Option.getD_some, Option.isSome_some, if_true, Bool.false_eq_true, if_false]

/-- m[k] = v. -/
theorem run_update [DecidableEq κ] {T K E : TypeId} {kv : κ → Value} {vv : β → Value} {m : List (κ × β)} {r : Nat} (KL : KeyLaw P K kv) (hT : P.underlying T = some (.map K E))
    (h : MapAt w r kv vv m) (k : κ) (b : β) :
    ∃ w', (Instr.mapUpdate T (.map (some r)) (kv k) (vv b)).run P w = .ok () w' ∧ MapAt w' r kv vv (mset m k b) ∧ Chg (At r) w w' := by
  obtain ⟨es, clk, hh, hm, hb, hc⟩ := h
  have hk : es.toList.map (·.key) = (m.map (·.1)).map kv := by
    have := congrArg (List.map (·.1)) hm; simpa [List.map_map, Function.comp_def] using this
  have hf := KL.find k (m.map (·.1)) es.toList w hk
  have hlt := lt_of_heap hh
  have hchg : ∀ o, Chg (At r) w { w with heap := w.heap.setIfInBounds r o } := fun o =>
    ⟨rfl, rfl, rfl, by simp, fun i _ hn => by simp only [Array.getElem?_setIfInBounds]; rw [if_neg (fun e => hn e.symm)]⟩
  have hat : ∀ o, ({ w with heap := w.heap.setIfInBounds r o } : World).heap[r]? = some o := fun o => by
    simp [hlt]
  rcases findIdx_mget m k with ⟨h1, h2⟩ | ⟨i, c, h1, h2, h3, h4⟩
  · rw [h1] at hf
    refine ⟨_, by simp only [Instr.mapUpdate, Sem.run_bind, run_underlying hT, Result.andThen_ok, run_getObj hh, KL.check, hf, Option.map_none, run_setObj hh]; rfl, ⟨_, _, hat _, ?_, ?_, ?_⟩, hchg _⟩
    · rw [mset_new m k b h2]; simp [hm]
    · simp only [Array.toList_push, List.pairwise_append, List.pairwise_cons, List.mem_singleton]
      exact ⟨hb, ⟨by simp, List.Pairwise.nil⟩, fun a ha x hx => by subst hx; exact hc a ha⟩
    · intro e he
      simp only [Array.toList_push, List.mem_append, List.mem_singleton] at he
      rcases he with he | rfl
      · have := hc e he; omega
      · simp
  · rw [h1] at hf
    have hei : ∃ e, es.toList[i]? = some e ∧ e.key = kv k := by
      have := congrArg (fun l => l[i]?) hm
      simp only [List.getElem?_map, h2, Option.map_some] at this
      cases he : es.toList[i]? with
      | none => rw [he] at this; simp at this
      | some e =>
        rw [he] at this
        simp only [Option.map_some, Option.some.injEq, Prod.mk.injEq] at this
        exact ⟨e, rfl, this.1⟩
    obtain ⟨e, he, hek⟩ := hei
    have hea : es[i]? = some e := by simpa using he
    refine ⟨_, by simp only [Instr.mapUpdate, Sem.run_bind, run_underlying hT, Result.andThen_ok, run_getObj hh, KL.check, hf, Option.map_some, Instr.keyThatStays, hea, hek, Option.getD_some, KL.same, if_true, Sem.run_pure, run_setObj hh]; rfl, ⟨_, _, hat _, ?_, ?_, ?_⟩, hchg _⟩
    · rw [h4]
      have hset : (es.modify i fun e => { e with key := kv k, val := vv b }).toList = es.toList.set i { e with key := kv k, val := vv b } := by
        apply List.ext_getElem?
        intro j
        simp only [Array.getElem?_toList, Array.getElem?_modify, List.getElem?_set]
        by_cases hij : i = j
        · subst hij
          have : i < es.toList.length := (List.getElem?_eq_some_iff.1 he).1
          simp [hea, this]
          simpa using this
        · simp [hij]
      rw [hset, List.map_set, hm, List.map_set]
    · have hset : (es.modify i fun e => { e with key := kv k, val := vv b }).toList.map (·.born) = es.toList.map (·.born) := by
        apply List.ext_getElem?
        intro j
        simp only [List.getElem?_map, Array.getElem?_toList, Array.getElem?_modify]
        split <;> simp
        cases es[j]? <;> rfl
      have h' : ∀ (l : List MapEntry), l.Pairwise (fun a b => a.born < b.born) ↔ (l.map (·.born)).Pairwise (· < ·) := fun l => by rw [List.pairwise_map]
      rw [h', hset, ← h']; exact hb
    · intro x hx
      have hmem : x.born ∈ (es.modify i fun e => { e with key := kv k, val := vv b }).toList.map (·.born) := List.mem_map.2 ⟨x, hx, rfl⟩
      have hset : (es.modify i fun e => { e with key := kv k, val := vv b }).toList.map (·.born) = es.toList.map (·.born) := by
        apply List.ext_getElem?
        intro j
        simp only [List.getElem?_map, Array.getElem?_toList, Array.getElem?_modify]
        split <;> simp
        cases es[j]? <;> rfl
      rw [hset] at hmem
      obtain ⟨y, hy, e⟩ := List.mem_map.1 hmem
      rw [← e]; exact hc y hy

section
variable {Q : Exit → Act → World → Prop} {a : Act} {OPS : Array Oper} {rest : List Oper}
theorem step_unit {o : Oper} {w' : World} (hg : o.guard = none) (hr : (execOp a.eval o).run P w = .ok .skip w')
    (h : wpList P OPS Q rest (a.put o.dst undef) w') : wpList P OPS Q (o :: rest) a w :=
  wpList_plain hg fun K hK => by unfold Oper.wp; rw [hr]; exact hK _ _ h
theorem run_update_op [DecidableEq κ] {o : Oper} {x y v : Operand} {T K E : TypeId} {kv : κ → Value} {vv : β → Value} {m : List (κ × β)} {r : Nat} (ho : o.op = .mapUpdate T x y v)
    (KL : KeyLaw P K kv) (hT : P.underlying T = some (.map K E)) (h : MapAt w r kv vv m) (k : κ) (b : β) (hx : a.eval x = .map (some r)) (hy : a.eval y = kv k) (hv : a.eval v = vv b) :
    ∃ w', (execOp a.eval o).run P w = .ok .skip w' ∧ MapAt w' r kv vv (mset m k b) ∧ Chg (At r) w w' := by
  obtain ⟨w', hr, h1, h2⟩ := run_update KL hT h k b
  exact ⟨w', by simp only [execOp, ho, hx, hy, hv, Sem.run_bind, hr, Result.andThen_ok, Sem.run_pure], h1, h2⟩
theorem step_update [DecidableEq κ] {d : Option Tmp} {x y v : Operand} {ty T K E : TypeId} {p : String} {af : Array Edge} {kv : κ → Value} {vv : β → Value} {m : List (κ × β)} {r : Nat}
    (KL : KeyLaw P K kv) (hT : P.underlying T = some (.map K E)) (h : MapAt w r kv vv m) (k : κ) (b : β) (hx : a.eval x = .map (some r)) (hy : a.eval y = kv k) (hv : a.eval v = vv b)
    (hk : ∀ w', MapAt w' r kv vv (mset m k b) → Chg (At r) w w' → wpList P OPS Q rest (a.put d undef) w') :
    Stop (wpList P OPS Q (⟨d, .mapUpdate T x y v, ty, p, af, none⟩ :: rest) a w) := by
  obtain ⟨w', hr, h1, h2⟩ := run_update_op (a := a) (o := ⟨d, .mapUpdate T x y v, ty, p, af, none⟩) rfl KL hT h k b hx hy hv
  exact step_unit rfl hr (hk w' h1 h2)
end
section
variable {ops : Array Oper} {Q : Exit → Act → World → Prop} {S : World → Prop} {fuel : Nat} {listed : Array Bool} {a : Act}
theorem rt_unit (S' : World → Prop) {i : Nat} {oi : Oper} {w' : World} (hr : Region.ready .any ops listed = [i]) (hS : S w) (hSS : ∀ w, S' w → S w) (hi : ops[i]? = some oi) (hw : Region.wanted oi (yielded ops a.tmps) = true)
    (hrun : (execOp a.eval oi).run P w = .ok .skip w') (h : RT P ops Q S' fuel (listed.setIfInBounds i true) (a.put oi.dst undef) w') : RT P ops Q S (fuel + 1) listed a w :=
  rt_e S' hr hS hSS hi hw (by unfold Oper.wp; rw [hrun]; exact h)
theorem rt_update [DecidableEq κ] (S' : World → Prop) {i : Nat} {d : Option Tmp} {x y v : Operand} {ty T K E : TypeId} {p : String} {af : Array Edge} {gd : Option (Nat × Bool)} {kv : κ → Value} {vv : β → Value} {m : List (κ × β)} {r : Nat}
    (hr : Region.ready .any ops listed = [i]) (hS : S w) (hSS : ∀ w, S' w → S w) (hi : ops[i]? = some ⟨d, .mapUpdate T x y v, ty, p, af, gd⟩) (hw : Region.wanted ⟨d, .mapUpdate T x y v, ty, p, af, gd⟩ (yielded ops a.tmps) = true)
    (KL : KeyLaw P K kv) (hT : P.underlying T = some (.map K E)) (h : MapAt w r kv vv m) (k : κ) (b : β) (hx : a.eval x = .map (some r)) (hy : a.eval y = kv k) (hv : a.eval v = vv b)
    (hk : ∀ w', MapAt w' r kv vv (mset m k b) → Chg (At r) w w' → RT P ops Q S' fuel (listed.setIfInBounds i true) (a.put d undef) w') : RT P ops Q S (fuel + 1) listed a w := by
  obtain ⟨w', hrun, h1, h2⟩ := run_update_op (a := a) (o := ⟨d, .mapUpdate T x y v, ty, p, af, gd⟩) rfl KL hT h k b hx hy hv
  exact rt_unit S' hr hS hSS hi hw hrun (hk w' h1 h2)
end
end Cb


/- Walks of package term: which nodes are unlike, which configurations may be. -/
set_option linter.unusedVariables false
set_option linter.unusedSimpArgs false
namespace Go.Proofs.Yticimjplegbagaa
open Go.RowKit Cb

def NodesP (xs : List Int) : Prop := (∀ x ∈ xs, 0 ≤ x ∧ x < 16) ∧ xs.Nodup
instance (xs : List Int) : Decidable (NodesP xs) := by unfold NodesP; exact inferInstance
def nodesB (xs : List Int) : Bool := decide (NodesP xs)
theorem nodes_nil : nodesB [] = true := by simp [nodesB, NodesP]
theorem nodes_out {xs : List Int} {x : Int} (h : x ∈ xs) (hx : ¬ (0 ≤ x ∧ x < 16)) : nodesB xs = false := decide_eq_false (fun hp => hx (hp.1 x h))
theorem nodes_dup {xs : List Int} {k : Nat} (hk : k < xs.length) (h : xs[k] ∈ xs.take k) : nodesB xs = false := decide_eq_false (fun hp => by
  obtain ⟨i, hi, e⟩ := List.mem_iff_getElem.1 h
  rw [List.length_take] at hi
  rw [List.getElem_take] at e
  exact (List.pairwise_iff_getElem.1 (List.nodup_iff_pairwise_ne.1 hp.2)) i k (by omega) hk (by omega) e)
theorem nodes_step {xs : List Int} {k : Nat} (hk : k < xs.length) (h : nodesB (xs.take k) = true) (hx : 0 ≤ xs[k] ∧ xs[k] < 16) (hn : xs[k] ∉ xs.take k) : nodesB (xs.take (k + 1)) = true := by
  obtain ⟨h1, h2⟩ := of_decide_eq_true h
  refine decide_eq_true ⟨?_, ?_⟩
  · rw [List.take_succ_eq_append_getElem hk]
    intro x hx'
    rcases List.mem_append.1 hx' with h' | h'
    · exact h1 x h'
    · rw [List.mem_singleton.1 h']; exact hx
  · rw [List.take_succ_eq_append_getElem hk, List.nodup_append]
    refine ⟨h2, by simp, ?_⟩
    intro a ha b hb
    rw [List.mem_singleton.1 hb]
    intro e
    rw [e] at ha
    exact hn ha
theorem intT_get {F : Nat → Prop} {w : World} {A : Option Addr} {n c : Nat} {l : List Int} (h : Sl F w (.slice A n c) l) (k : Nat) (hk : k < l.length) :
    ∃ b o, A = some ⟨b, o, none⟩ ∧ ¬ F b ∧ b < w.heap.size ∧ w.cell? ⟨b, o + k, none⟩ = some (.int .i64 l[k]) := by
  obtain ⟨b, o, d, rfl, hF, hb, rfl, ha⟩ := h.get k hk
  refine ⟨b, o, rfl, hF, hb, ?_⟩
  have := ha 0 _ rfl
  simpa [show Rep.n Int = 1 from rfl] using this
theorem rowT_get {F : Nat → Prop} {w : World} {A : Option Addr} {n c : Nat} {l : List (List Int)} (h : Sl F w (.slice A n c) l) (k : Nat) (hk : k < l.length) :
    ∃ b o v, A = some ⟨b, o, none⟩ ∧ ¬ F b ∧ b < w.heap.size ∧ w.cell? ⟨b, o + k, none⟩ = some v ∧ Sl F w v l[k] := by
  obtain ⟨b, o, d, rfl, hF, hb, ⟨v, rfl, hv⟩, ha⟩ := h.get k hk
  refine ⟨b, o, v, rfl, hF, hb, ?_, hv⟩
  have := ha 0 _ rfl
  simpa [show Rep.n (List Int) = 1 from rfl] using this
theorem klN : KeyLaw Try.prog 3 (Value.int .i64) := keyLaw_int Try.underlying3
theorem zBoolN : (Try.prog.info? 4).bind (·.zero) = some (.bool false) := by kernel_rfl
def MetP (m : List (Int × Bool)) (xs : List Int) : Prop := ∀ x, (mget m x).getD false = decide (x ∈ xs)
theorem met_nil : MetP [] [] := fun x => by simp [mget]
theorem met_set {m : List (Int × Bool)} {xs : List Int} (h : MetP m xs) (y : Int) : MetP (mset m y true) (xs ++ [y]) := fun x => by
  rw [mget_mset]
  split
  · rename_i e; subst e; simp
  · rename_i e; rw [h x]; simp [e]
theorem run_met {w : World} {r : Nat} {m : List (Int × Bool)} {xs : List Int} (h : MapAt w r (.int .i64) .bool m) (hm : MetP m xs) (x : Int) :
    (Instr.lookup 86 (.map (some r)) (.int .i64 x) false).run Try.prog w = .ok (.bool (decide (x ∈ xs))) w := by
  have := run_lookup klN Try.underlying86 zBoolN h x false
  rw [this, ← hm x]
  cases mget m x <;> rfl
set_option maxRecDepth 100000 in
set_option maxHeartbeats 1000000 in
theorem tunlike_any (F : Nat → Prop) (v : Value) (xs : List Int) (w : World) (hs : Sl F w v xs) (hl : xs.length * 8 ≤ 140737488355328) :
    Calls Try.prog 52 #[v] w fun e w' => e = .returned (.bool (nodesB xs)) ∧ Chg No w w' := by
  have Hs := Lib.hid (fun W (hW : Chg No w W) => hs.keepNo hW)
  obtain ⟨A, c, rfl⟩ := hs.slice
  clear hs
  have hmm := @run_makeMap Try.prog
  go_enter Try.func52, Try.ntmps52
  go_wp2_with (with_reducible first | refine stop_append ?_ | refine stop_copy ?_ | refine stop_make ?_ | refine stop_lookup ?_ | refine stop_update ?_ | refine stop_slice ?_ | refine stop_range ?_ | refine stop_next ?_ | refine stop_convert ⟨_, rfl⟩ ?_ | refine stop_convertB ⟨_, _, _, rfl⟩ ?_ | refine stop_eqSlice ⟨_, _, rfl⟩ ?_)
  have hm0 := MapAt.made w (.int .i64) Value.bool (κ := Int) (β := Bool)
  have hc0 := (Chg.refl No w).alloc (.map #[] 0)
  generalize w.alloc (.map #[] 0) = w0 at *
  obtain ⟨r, hr⟩ : ∃ r, r = w.heap.size := ⟨_, rfl⟩
  rw [← hr] at hm0 ⊢
  have Hr := Lib.hid hr
  clear hr hmm
  go_loopw [9] (fun v9 wr => ∃ (k : Nat) (m : List (Int × Bool)), k ≤ xs.length ∧ v9 = .int .i64 k ∧ Chg No w wr ∧ MapAt wr r (.int .i64) .bool m ∧ MetP m (xs.take k) ∧ nodesB (xs.take k) = true) (fun v9 _ => xs.length - (intOf v9).toNat)
  case atStart => exact ⟨0, [], by omega, rfl, hc0, hm0, by simpa using met_nil, by simpa using nodes_nil⟩
  case round =>
    obtain ⟨k, m, hk, rfl, hc, hmap, hmet, hnod⟩ := hrel
    have Hnod := Lib.hid hnod
    clear hnod hm0
    by_cases hlt : k < xs.length
    · obtain ⟨b, o, rfl, _, hbl, hx0⟩ := intT_get (Hs.out wr hc) k hlt
      have hlook := run_met hmap hmet xs[k]
      have Hmap := Lib.hid hmap
      have Hmet := Lib.hid (met_set hmet xs[k])
      rw [← List.take_succ_eq_append_getElem hlt] at Hmet
      have Hbad := Lib.hid (fun h => nodes_out (List.getElem_mem hlt) h)
      have Hdup := Lib.hid (nodes_dup hlt)
      have Hgo := Lib.hid (nodes_step hlt Hnod.out)
      clear hmap hmet
      by_cases hin : xs[k] ∈ xs.take k
      · rw [decide_eq_true hin] at hlook
        have hd := Hdup.out hin
        clear Hbad Hdup Hgo Hnod
        generalize xs[k] = x at *
        have Hd := Lib.hid hd
        clear hd hin
        rcases (show x < 0 ∨ (¬ x < 0 ∧ 16 ≤ x) ∨ (¬ x < 0 ∧ ¬ 16 ≤ x) by omega) with h | ⟨h, h2⟩ | ⟨h, h2⟩
        · go_wp2_with (with_reducible first | refine stop_append ?_ | refine stop_copy ?_ | refine stop_make ?_ | refine stop_update ?_ | refine stop_slice ?_ | refine stop_range ?_ | refine stop_next ?_ | refine stop_convert ⟨_, rfl⟩ ?_ | refine stop_convertB ⟨_, _, _, rfl⟩ ?_ | refine stop_eqSlice ⟨_, _, rfl⟩ ?_)
          go_ret
          exact ⟨by rw [Hd.out]; rfl, hc⟩
        · go_wp2_with (with_reducible first | refine stop_append ?_ | refine stop_copy ?_ | refine stop_make ?_ | refine stop_update ?_ | refine stop_slice ?_ | refine stop_range ?_ | refine stop_next ?_ | refine stop_convert ⟨_, rfl⟩ ?_ | refine stop_convertB ⟨_, _, _, rfl⟩ ?_ | refine stop_eqSlice ⟨_, _, rfl⟩ ?_)
          go_ret
          exact ⟨by rw [Hd.out]; rfl, hc⟩
        · go_wp2_with (with_reducible first | refine stop_append ?_ | refine stop_copy ?_ | refine stop_make ?_ | refine stop_update ?_ | refine stop_slice ?_ | refine stop_range ?_ | refine stop_next ?_ | refine stop_convert ⟨_, rfl⟩ ?_ | refine stop_convertB ⟨_, _, _, rfl⟩ ?_ | refine stop_eqSlice ⟨_, _, rfl⟩ ?_)
          go_ret
          exact ⟨by rw [Hd.out]; rfl, hc⟩
      · rw [decide_eq_false hin] at hlook
        have hgo := fun h => Hgo.out h hin
        have hbad := Hbad.out
        clear Hbad Hdup Hgo Hnod hin
        generalize xs[k] = x at *
        have Hgo := Lib.hid hgo
        have Hbad := Lib.hid hbad
        clear hgo hbad
        rcases (show x < 0 ∨ (¬ x < 0 ∧ 16 ≤ x) ∨ (¬ x < 0 ∧ ¬ 16 ≤ x) by omega) with h | ⟨h, h2⟩ | ⟨h, h2⟩
        · go_wp2_with (with_reducible first | refine stop_append ?_ | refine stop_copy ?_ | refine stop_make ?_ | refine stop_update ?_ | refine stop_slice ?_ | refine stop_range ?_ | refine stop_next ?_ | refine stop_convert ⟨_, rfl⟩ ?_ | refine stop_convertB ⟨_, _, _, rfl⟩ ?_ | refine stop_eqSlice ⟨_, _, rfl⟩ ?_)
          go_ret
          exact ⟨by rw [Hbad.out (by omega)]; rfl, hc⟩
        · go_wp2_with (with_reducible first | refine stop_append ?_ | refine stop_copy ?_ | refine stop_make ?_ | refine stop_update ?_ | refine stop_slice ?_ | refine stop_range ?_ | refine stop_next ?_ | refine stop_convert ⟨_, rfl⟩ ?_ | refine stop_convertB ⟨_, _, _, rfl⟩ ?_ | refine stop_eqSlice ⟨_, _, rfl⟩ ?_)
          go_ret
          exact ⟨by rw [Hbad.out (by omega)]; rfl, hc⟩
        · have Hg := Lib.hid (Hgo.out (by omega))
          go_wp2_with (with_reducible first | refine stop_append ?_ | refine stop_copy ?_ | refine stop_make ?_ | refine stop_update ?_ | refine stop_slice ?_ | refine stop_range ?_ | refine stop_next ?_ | refine stop_convert ⟨_, rfl⟩ ?_ | refine stop_convertB ⟨_, _, _, rfl⟩ ?_ | refine stop_eqSlice ⟨_, _, rfl⟩ ?_)
          refine step_update klN Try.underlying86 Hmap.out x true rfl rfl rfl ?_
          intro w6 hm6 hc6
          have Hm6 := Lib.hid hm6
          have hcw6 : Chg No w w6 := hc.old hc6 (fun i h => by have := Hr.out; simp only [At] at h; omega)
          clear hm6 hlook
          go_wp2_with (with_reducible first | refine stop_append ?_ | refine stop_copy ?_ | refine stop_make ?_ | refine stop_lookup ?_ | refine stop_update ?_ | refine stop_slice ?_ | refine stop_range ?_ | refine stop_next ?_ | refine stop_convert ⟨_, rfl⟩ ?_ | refine stop_convertB ⟨_, _, _, rfl⟩ ?_ | refine stop_eqSlice ⟨_, _, rfl⟩ ?_)
          go_roundw
          case rel => exact ⟨k + 1, _, by omega, by go_num, hcw6, Hm6.out, Hmet.out, Hg.out⟩
          case measure => simp [intOf]; omega
    · obtain rfl : k = xs.length := by omega
      rw [List.take_length] at Hnod
      go_wp2_with (with_reducible first | refine stop_append ?_ | refine stop_copy ?_ | refine stop_make ?_ | refine stop_lookup ?_ | refine stop_update ?_ | refine stop_slice ?_ | refine stop_range ?_ | refine stop_next ?_ | refine stop_convert ⟨_, rfl⟩ ?_ | refine stop_convertB ⟨_, _, _, rfl⟩ ?_ | refine stop_eqSlice ⟨_, _, rfl⟩ ?_)
      go_ret
      exact ⟨by rw [Hnod.out]; rfl, hc⟩
end Go.Proofs.Yticimjplegbagaa


/- Walks of package term: which configurations may be. -/
set_option linter.unusedVariables false
set_option linter.unusedSimpArgs false
namespace Go.Proofs.Yticimjplegbagaa
open Go.RowKit Cb

def shardB (l : List Int) : Bool := decide (1 ≤ l.length ∧ l.length ≤ 3) && nodesB l
def rightC (t : Int) (q : List Int) (s : List (List Int)) : Bool :=
  decide (1 ≤ t ∧ t ≤ 64) && decide (q.length % 2 = 1 ∧ q.length ≤ 7) && decide (1 ≤ s.length ∧ s.length ≤ 8) && nodesB q && !s.any (fun l => !shardB l)
theorem rightC_iff {t : Int} {q : List Int} {s : List (List Int)} : rightC t q s = true ↔ (1 ≤ t ∧ t ≤ 64) ∧ (q.length % 2 = 1 ∧ q.length ≤ 7) ∧ (1 ≤ s.length ∧ s.length ≤ 8) ∧ nodesB q = true ∧ ∀ l ∈ s, shardB l = true := by
  simp only [rightC, Bool.and_eq_true, decide_eq_true_eq, Bool.not_eq_true', List.any_eq_false, and_assoc]
  simp
theorem tright1_any (F : Nat → Prop) (v : Value) (xs : List Int) (w : World) (hs : Sl F w v xs) (hl : xs.length * 8 ≤ 140737488355328) :
    Calls Try.prog 53 #[v] w fun e w' => e = .returned (.bool (!shardB xs)) ∧ Chg No w w' := by
  have Hu := Lib.hid (tunlike_any F v xs w hs hl)
  obtain ⟨A, c, rfl⟩ := hs.slice
  clear hs
  have hcase : (xs.length = 0 ∧ shardB xs = false) ∨ (1 ≤ xs.length ∧ 3 < xs.length ∧ shardB xs = false) ∨ (1 ≤ xs.length ∧ xs.length ≤ 3 ∧ shardB xs = nodesB xs) := by
    by_cases h1 : 1 ≤ xs.length
    · by_cases h3 : xs.length ≤ 3
      · exact .inr (.inr ⟨h1, h3, by simp [shardB, h1, h3]⟩)
      · exact .inr (.inl ⟨h1, by omega, by simp [shardB, h3]⟩)
    · exact .inl ⟨by omega, by simp [shardB, h1]⟩
  rcases hcase with ⟨h1, h2⟩ | ⟨h1, h3, h2⟩ | ⟨h1, h3, h2⟩
  · rw [h2, h1]
    go_enter Try.func53, Try.ntmps53
    go_wp2_with (with_reducible first | refine stop_append ?_ | refine stop_copy ?_ | refine stop_make ?_ | refine stop_lookup ?_ | refine stop_update ?_ | refine stop_slice ?_ | refine stop_range ?_ | refine stop_next ?_ | refine stop_convert ⟨_, rfl⟩ ?_ | refine stop_convertB ⟨_, _, _, rfl⟩ ?_ | refine stop_eqSlice ⟨_, _, rfl⟩ ?_)
    go_ret
    exact ⟨rfl, Chg.refl _ _⟩
  · rw [h2]
    have h1' : ¬ xs.length = 0 := by omega
    go_enter Try.func53, Try.ntmps53
    go_wp2_with (with_reducible first | refine stop_append ?_ | refine stop_copy ?_ | refine stop_make ?_ | refine stop_lookup ?_ | refine stop_update ?_ | refine stop_slice ?_ | refine stop_range ?_ | refine stop_next ?_ | refine stop_convert ⟨_, rfl⟩ ?_ | refine stop_convertB ⟨_, _, _, rfl⟩ ?_ | refine stop_eqSlice ⟨_, _, rfl⟩ ?_)
    go_ret
    exact ⟨rfl, Chg.refl _ _⟩
  · rw [h2]
    have h1' : ¬ xs.length = 0 := by omega
    have h3' : ¬ 3 < xs.length := by omega
    clear h2
    generalize nodesB xs = b at *
    go_enter Try.func53, Try.ntmps53
    go_wp2_with (with_reducible first | refine stop_append ?_ | refine stop_copy ?_ | refine stop_make ?_ | refine stop_lookup ?_ | refine stop_update ?_ | refine stop_slice ?_ | refine stop_range ?_ | refine stop_next ?_ | refine stop_convert ⟨_, rfl⟩ ?_ | refine stop_convertB ⟨_, _, _, rfl⟩ ?_ | refine stop_eqSlice ⟨_, _, rfl⟩ ?_)
    refine Hu.out.mono ?_
    rintro e w1 ⟨rfl, hc⟩
    go_wp2_with (with_reducible first | refine stop_append ?_ | refine stop_copy ?_ | refine stop_make ?_ | refine stop_lookup ?_ | refine stop_update ?_ | refine stop_slice ?_ | refine stop_range ?_ | refine stop_next ?_ | refine stop_convert ⟨_, rfl⟩ ?_ | refine stop_convertB ⟨_, _, _, rfl⟩ ?_ | refine stop_eqSlice ⟨_, _, rfl⟩ ?_)
    go_ret
    refine ⟨?_, hc⟩
    show Ending.returned (.bool (decide ((xs.length : Int) < 1) || decide (3 < (xs.length : Int)) || !b)) = _
    rw [decide_eq_false (by omega), decide_eq_false (by omega)]
    rfl
def idxT (p : List Int → Bool) (l : List (List Int)) : Int := match l.findIdx? p with | some i => i | none => -1
set_option maxRecDepth 100000 in
set_option maxHeartbeats 1000000 in
theorem indexT_any (F : Nat → Prop) (v : Value) (l : List (List Int)) (p : List Int → Bool) (g : FuncId) (hg : ∀ args W, (callFunc g args).run Try.prog W = .ok (.enter g args) W) (w : World) (hs : Sl F w v l) (hl : l.length ≤ 17592186044416)
    (hp : ∀ i (h : i < l.length) u W, Chg No w W → Sl F W u l[i] → Calls Try.prog g #[u] W fun e w' => e = .returned (.bool (p l[i])) ∧ Chg No W w') :
    Calls Try.prog 72 #[v, .func (.func g) #[] #[]] w fun e w' => e = .returned (.int .i64 (idxT p l)) ∧ Chg No w w' := by
  obtain ⟨A, c, rfl⟩ := hs.slice
  have Hp := Lib.hid hp; have Hs := Lib.hid hs
  clear hp hs
  go_enter Try.func72, Try.ntmps72
  go_wp2_with (with_reducible first | refine stop_append ?_ | refine stop_copy ?_ | refine stop_make ?_ | refine stop_lookup ?_ | refine stop_update ?_ | refine stop_slice ?_ | refine stop_range ?_ | refine stop_next ?_ | refine stop_convert ⟨_, rfl⟩ ?_ | refine stop_convertB ⟨_, _, _, rfl⟩ ?_ | refine stop_eqSlice ⟨_, _, rfl⟩ ?_)
  go_loopw [8] (fun v8 wr => ∃ k : Nat, k ≤ l.length ∧ v8 = .int .i64 k ∧ Chg No w wr ∧ ∀ i (h : i < l.length), i < k → p l[i] = false) (fun v8 _ => l.length - (intOf v8).toNat)
  case atStart => exact ⟨0, by omega, rfl, Chg.refl _ _, fun _ _ h => absurd h (by omega)⟩
  case round =>
    obtain ⟨k, hk, rfl, hc1, hall⟩ := hrel
    have Hall := Lib.hid hall; clear hall
    by_cases hlt : k < l.length
    · obtain ⟨b, o, u, rfl, _, hbl, ha0, hu⟩ := rowT_get (Hs.out.keepNo hc1) k hlt
      have Hcall := Lib.hid (Hp.out k hlt u wr hc1 hu)
      obtain ⟨Au, cu, rfl⟩ := hu.slice
      clear hu
      cases hpx : p l[k] with
      | true =>
        have Hi := Lib.hid (show idxT p l = k by
          simp only [idxT]
          rw [show l.findIdx? p = some k from List.findIdx?_eq_some_iff_getElem.2 ⟨hlt, hpx, fun j hj => by rw [Hall.out j (by omega) hj]; simp⟩])
        rw [hpx] at Hcall
        clear hpx
        generalize l[k] = x at *
        go_wp2_with (with_reducible first | refine stop_append ?_ | refine stop_copy ?_ | refine stop_make ?_ | refine stop_lookup ?_ | refine stop_update ?_ | refine stop_slice ?_ | refine stop_range ?_ | refine stop_next ?_ | refine stop_convert ⟨_, rfl⟩ ?_ | refine stop_convertB ⟨_, _, _, rfl⟩ ?_ | refine stop_eqSlice ⟨_, _, rfl⟩ ?_)
        refine Hcall.out.mono ?_
        rintro e w1 ⟨rfl, hc2⟩
        go_wp2_with (with_reducible first | refine stop_append ?_ | refine stop_copy ?_ | refine stop_make ?_ | refine stop_lookup ?_ | refine stop_update ?_ | refine stop_slice ?_ | refine stop_range ?_ | refine stop_next ?_ | refine stop_convert ⟨_, rfl⟩ ?_ | refine stop_convertB ⟨_, _, _, rfl⟩ ?_ | refine stop_eqSlice ⟨_, _, rfl⟩ ?_)
        go_ret
        rw [Hi.out]
        exact ⟨rfl, hc1.trans hc2⟩
      | false =>
        rw [hpx] at Hcall
        have Hpx := Lib.hid (show ∀ i (h : i < l.length), i < k + 1 → p l[i] = false from fun i h hi => by
          rcases Nat.lt_or_ge i k with h' | h'
          · exact Hall.out i h h'
          · obtain rfl : i = k := by omega
            exact hpx)
        clear hpx
        generalize l[k] = x at *
        go_wp2_with (with_reducible first | refine stop_append ?_ | refine stop_copy ?_ | refine stop_make ?_ | refine stop_lookup ?_ | refine stop_update ?_ | refine stop_slice ?_ | refine stop_range ?_ | refine stop_next ?_ | refine stop_convert ⟨_, rfl⟩ ?_ | refine stop_convertB ⟨_, _, _, rfl⟩ ?_ | refine stop_eqSlice ⟨_, _, rfl⟩ ?_)
        refine Hcall.out.mono ?_
        rintro e w1 ⟨rfl, hc2⟩
        go_wp2_with (with_reducible first | refine stop_append ?_ | refine stop_copy ?_ | refine stop_make ?_ | refine stop_lookup ?_ | refine stop_update ?_ | refine stop_slice ?_ | refine stop_range ?_ | refine stop_next ?_ | refine stop_convert ⟨_, rfl⟩ ?_ | refine stop_convertB ⟨_, _, _, rfl⟩ ?_ | refine stop_eqSlice ⟨_, _, rfl⟩ ?_)
        go_roundw
        case rel => exact ⟨k + 1, by omega, by go_num, hc1.trans hc2, Hpx.out⟩
        case measure => simp [intOf]; omega
    · have Hi := Lib.hid (show idxT p l = -1 by
        simp only [idxT]
        rw [List.findIdx?_eq_none_iff.2 (fun x hx => by
          obtain ⟨i, hi, rfl⟩ := List.mem_iff_getElem.1 hx
          exact Hall.out i hi (by omega))])
      go_wp2_with (with_reducible first | refine stop_append ?_ | refine stop_copy ?_ | refine stop_make ?_ | refine stop_lookup ?_ | refine stop_update ?_ | refine stop_slice ?_ | refine stop_range ?_ | refine stop_next ?_ | refine stop_convert ⟨_, rfl⟩ ?_ | refine stop_convertB ⟨_, _, _, rfl⟩ ?_ | refine stop_eqSlice ⟨_, _, rfl⟩ ?_)
      go_ret
      rw [Hi.out]
      exact ⟨rfl, hc1⟩
theorem containsT_any (F : Nat → Prop) (v : Value) (l : List (List Int)) (p : List Int → Bool) (g : FuncId) (hg : ∀ args W, (callFunc g args).run Try.prog W = .ok (.enter g args) W) (w : World) (hs : Sl F w v l) (hl : l.length ≤ 17592186044416)
    (hp : ∀ i (h : i < l.length) u W, Chg No w W → Sl F W u l[i] → Calls Try.prog g #[u] W fun e w' => e = .returned (.bool (p l[i])) ∧ Chg No W w') :
    Calls Try.prog 54 #[v, .func (.func g) #[] #[]] w fun e w' => e = .returned (.bool (l.any p)) ∧ Chg No w w' := by
  have Hcall := Lib.hid (indexT_any F v l p g hg w hs hl hp)
  clear hp hs
  have hr : (0 ≤ idxT p l ∧ l.any p = true) ∨ (idxT p l < 0 ∧ l.any p = false) := by
    simp only [idxT]
    cases h : l.findIdx? p with
    | some i =>
      left
      obtain ⟨hi, hpi, _⟩ := List.findIdx?_eq_some_iff_getElem.1 h
      exact ⟨by simp, List.any_eq_true.2 ⟨_, List.getElem_mem hi, hpi⟩⟩
    | none =>
      right
      exact ⟨by simp, by rw [List.any_eq_false]; intro x hx; rw [List.findIdx?_eq_none_iff.1 h x hx]; simp⟩
  generalize idxT p l = i at Hcall hr
  generalize l.any p = r at hr ⊢
  rcases hr with ⟨hi, hr⟩ | ⟨hi, hr⟩
  all_goals
    have Hr := Lib.hid hr; clear hr
    have hib := hi
    go_enter Try.func54, Try.ntmps54
    go_wp2_with (with_reducible first | refine stop_append ?_ | refine stop_copy ?_ | refine stop_make ?_ | refine stop_lookup ?_ | refine stop_update ?_ | refine stop_slice ?_ | refine stop_range ?_ | refine stop_next ?_ | refine stop_convert ⟨_, rfl⟩ ?_ | refine stop_convertB ⟨_, _, _, rfl⟩ ?_ | refine stop_eqSlice ⟨_, _, rfl⟩ ?_)
    refine Hcall.out.mono ?_
    rintro e w1 ⟨rfl, hc2⟩
    go_wp2_with (with_reducible first | refine stop_append ?_ | refine stop_copy ?_ | refine stop_make ?_ | refine stop_lookup ?_ | refine stop_update ?_ | refine stop_slice ?_ | refine stop_range ?_ | refine stop_next ?_ | refine stop_convert ⟨_, rfl⟩ ?_ | refine stop_convertB ⟨_, _, _, rfl⟩ ?_ | refine stop_eqSlice ⟨_, _, rfl⟩ ?_)
    go_ret
    rw [Hr.out]
    exact ⟨by simp [hi], hc2⟩
/-- A configuration's three values. -/
def cfgV (t : Int) (vq vs : Value) : Value := .agg #[.int .i64 t, vq, vs]
set_option maxRecDepth 100000 in
set_option maxHeartbeats 1000000 in
theorem tright_any (F G : Nat → Prop) (t : Int) (vq vs : Value) (q : List Int) (s : List (List Int)) (w : World) (hq : Sl F w vq q) (hs : Sl G w vs s) (hlq : q.length * 8 ≤ 140737488351232) (hls : s.length ≤ 17592186044416) (hb : ∀ x ∈ s, x.length * 8 ≤ 140737488351232) :
    Calls Try.prog 30 #[cfgV t vq vs] w fun e w' => e = .returned (.bool (rightC t q s)) ∧ Chg No w w' := by
  have Hq := Lib.hid (fun W (hW : Chg No w W) => tunlike_any F vq q W (hq.keepNo hW) (by omega))
  have Hc := Lib.hid (fun W (hW : Chg No w W) => containsT_any G vs s (fun l => !shardB l) 53 (fun args W => by kernel_rfl) W (hs.keepNo hW) hls (fun i h u W' hW' hu => tright1_any G u s[i] W' hu (by have := hb _ (List.getElem_mem h); omega)))
  obtain ⟨Aq, cq, rfl⟩ := hq.slice
  obtain ⟨As, cs, rfl⟩ := hs.slice
  clear hq hs
  have hrt : rightC t q s = (decide (1 ≤ t ∧ t ≤ 64) && decide (q.length % 2 = 1 ∧ q.length ≤ 7) && decide (1 ≤ s.length ∧ s.length ≤ 8) && nodesB q && !s.any (fun l => !shardB l)) := rfl
  generalize s.any (fun l => !shardB l) = sa at *
  generalize nodesB q = qn at *
  generalize rightC t q s = R at *
  have Hrt := Lib.hid hrt
  clear hrt hb
  unfold cfgV
  go_enter Try.func30, Try.ntmps30
  have ho := alloc_obj w (.cells #[.int .i64 t, .slice Aq q.length cq, .slice As s.length cs] 36)
  have hca := (Chg.refl No w).alloc (.cells #[.int .i64 t, .slice Aq q.length cq, .slice As s.length cs] 36)
  have a0 := cell_obj (i := 0) ho rfl
  have a1 := cell_obj (i := 1) ho rfl
  have a2 := cell_obj (i := 2) ho rfl
  go_wp2_with (with_reducible first | refine stop_append ?_ | refine stop_copy ?_ | refine stop_make ?_ | refine stop_lookup ?_ | refine stop_update ?_ | refine stop_slice ?_ | refine stop_range ?_ | refine stop_next ?_ | refine stop_convert ⟨_, rfl⟩ ?_ | refine stop_convertB ⟨_, _, _, rfl⟩ ?_ | refine stop_eqSlice ⟨_, _, rfl⟩ ?_)
  clear ho
  generalize w.alloc (.cells #[.int .i64 t, .slice Aq q.length cq, .slice As s.length cs] 36) = w1 at *
  generalize w.heap.size = p at *
  refine pl_start (fun W => W.cell? ⟨p, 1, none⟩ = some (.slice Aq q.length cq) ∧ W.cell? ⟨p, 2, none⟩ = some (.slice As s.length cs) ∧ Chg No w1 W) (by kernel_rfl) (by kernel_rfl) ⟨a1, a2, (Chg.refl _ _).drew⟩ ?_
  iterate 8 ((refine pl_nx [] (v := ?_) rfl (by kernel_rfl) rfl ?_ ?_; rotate_left; focus (intro W hW; (try dsimp only at hW); go_split_ands; go_simp; (try (simp (disch := omega) only [IntWalk.i64_in]; (try go_simp))); (try (split; (next => omega); (try go_simp))); try rfl; done)); try simp only [Act.put, List.setIfInBounds_toArray, List.set_cons_zero, List.set_cons_succ, Nat.reduceAdd])
  refine pl_done (by kernel_rfl)  ?_
  rintro w2 ⟨_, _, hc2⟩
  replace a0 := hc2.cell a0 (not_no _)
  replace a1 := hc2.cell a1 (not_no _)
  replace a2 := hc2.cell a2 (not_no _)
  replace hca := hca.trans hc2
  clear hc2
  have hcase : (t < 1 ∧ R = false) ∨ (¬ t < 1 ∧ 64 < t ∧ R = false) ∨ (¬ t < 1 ∧ ¬ 64 < t ∧ q.length % 2 = 0 ∧ R = false) ∨
      (¬ t < 1 ∧ ¬ 64 < t ∧ q.length % 2 = 1 ∧ 7 < q.length ∧ R = false) ∨
      (¬ t < 1 ∧ ¬ 64 < t ∧ q.length % 2 = 1 ∧ ¬ 7 < q.length ∧ s.length = 0 ∧ R = false) ∨
      (¬ t < 1 ∧ ¬ 64 < t ∧ q.length % 2 = 1 ∧ ¬ 7 < q.length ∧ ¬ s.length = 0 ∧ 8 < s.length ∧ R = false) ∨
      (¬ t < 1 ∧ ¬ 64 < t ∧ q.length % 2 = 1 ∧ ¬ 7 < q.length ∧ ¬ s.length = 0 ∧ ¬ 8 < s.length ∧ R = (qn && !sa)) := by
    rw [Hrt.out]
    by_cases h1 : t < 1
    · exact .inl ⟨h1, by simp [show ¬ 1 ≤ t by omega]⟩
    by_cases h2 : 64 < t
    · exact .inr (.inl ⟨h1, h2, by simp [show ¬ t ≤ 64 by omega]⟩)
    by_cases h3 : q.length % 2 = 0
    · exact .inr (.inr (.inl ⟨h1, h2, h3, by simp [h3]⟩))
    have h3 : q.length % 2 = 1 := by omega
    by_cases h4 : 7 < q.length
    · exact .inr (.inr (.inr (.inl ⟨h1, h2, h3, h4, by simp [show ¬ q.length ≤ 7 by omega]⟩)))
    by_cases h5 : s.length = 0
    · exact .inr (.inr (.inr (.inr (.inl ⟨h1, h2, h3, h4, h5, by simp [h5]⟩))))
    by_cases h6 : 8 < s.length
    · exact .inr (.inr (.inr (.inr (.inr (.inl ⟨h1, h2, h3, h4, h5, h6, by simp [show ¬ s.length ≤ 8 by omega]⟩)))))
    · exact .inr (.inr (.inr (.inr (.inr (.inr ⟨h1, h2, h3, h4, h5, h6, by simp [h3, show 1 ≤ t by omega, show t ≤ 64 by omega, show q.length ≤ 7 by omega, show s.length ≤ 8 by omega, show 1 ≤ s.length by omega]⟩)))))
  clear Hrt
  rcases hcase with ⟨h1, hr⟩ | ⟨h1, h2, hr⟩ | ⟨h1, h2, h3, hr⟩ | ⟨h1, h2, h3, h4, hr⟩ | ⟨h1, h2, h3, h4, h5, hr⟩ | ⟨h1, h2, h3, h4, h5, h6, hr⟩ | ⟨h1, h2, h3, h4, h5, h6, hr⟩
  · have Hr := Lib.hid hr
    clear hr
    go_wp2_with (with_reducible first | refine stop_append ?_ | refine stop_copy ?_ | refine stop_make ?_ | refine stop_lookup ?_ | refine stop_update ?_ | refine stop_slice ?_ | refine stop_range ?_ | refine stop_next ?_ | refine stop_convert ⟨_, rfl⟩ ?_ | refine stop_convertB ⟨_, _, _, rfl⟩ ?_ | refine stop_eqSlice ⟨_, _, rfl⟩ ?_)
    go_ret
    exact ⟨by rw [Hr.out]; rfl, hca⟩
  · have Hr := Lib.hid hr
    clear hr
    go_wp2_with (with_reducible first | refine stop_append ?_ | refine stop_copy ?_ | refine stop_make ?_ | refine stop_lookup ?_ | refine stop_update ?_ | refine stop_slice ?_ | refine stop_range ?_ | refine stop_next ?_ | refine stop_convert ⟨_, rfl⟩ ?_ | refine stop_convertB ⟨_, _, _, rfl⟩ ?_ | refine stop_eqSlice ⟨_, _, rfl⟩ ?_)
    go_ret
    exact ⟨by rw [Hr.out]; rfl, hca⟩
  · have Hr := Lib.hid hr
    clear hr
    go_wp2_with (with_reducible first | refine stop_append ?_ | refine stop_copy ?_ | refine stop_make ?_ | refine stop_lookup ?_ | refine stop_update ?_ | refine stop_slice ?_ | refine stop_range ?_ | refine stop_next ?_ | refine stop_convert ⟨_, rfl⟩ ?_ | refine stop_convertB ⟨_, _, _, rfl⟩ ?_ | refine stop_eqSlice ⟨_, _, rfl⟩ ?_)
    go_ret
    exact ⟨by rw [Hr.out]; rfl, hca⟩
  · have Hr := Lib.hid hr
    clear hr
    go_wp2_with (with_reducible first | refine stop_append ?_ | refine stop_copy ?_ | refine stop_make ?_ | refine stop_lookup ?_ | refine stop_update ?_ | refine stop_slice ?_ | refine stop_range ?_ | refine stop_next ?_ | refine stop_convert ⟨_, rfl⟩ ?_ | refine stop_convertB ⟨_, _, _, rfl⟩ ?_ | refine stop_eqSlice ⟨_, _, rfl⟩ ?_)
    go_ret
    exact ⟨by rw [Hr.out]; rfl, hca⟩
  · have Hr := Lib.hid hr
    clear hr
    go_wp2_with (with_reducible first | refine stop_append ?_ | refine stop_copy ?_ | refine stop_make ?_ | refine stop_lookup ?_ | refine stop_update ?_ | refine stop_slice ?_ | refine stop_range ?_ | refine stop_next ?_ | refine stop_convert ⟨_, rfl⟩ ?_ | refine stop_convertB ⟨_, _, _, rfl⟩ ?_ | refine stop_eqSlice ⟨_, _, rfl⟩ ?_)
    go_ret
    exact ⟨by rw [Hr.out]; rfl, hca⟩
  · have Hr := Lib.hid hr
    clear hr
    go_wp2_with (with_reducible first | refine stop_append ?_ | refine stop_copy ?_ | refine stop_make ?_ | refine stop_lookup ?_ | refine stop_update ?_ | refine stop_slice ?_ | refine stop_range ?_ | refine stop_next ?_ | refine stop_convert ⟨_, rfl⟩ ?_ | refine stop_convertB ⟨_, _, _, rfl⟩ ?_ | refine stop_eqSlice ⟨_, _, rfl⟩ ?_)
    go_ret
    exact ⟨by rw [Hr.out]; rfl, hca⟩
  · have Hr := Lib.hid hr
    clear hr
    have k1 : ((q.length : Int) % 2 == 0) = false := by simp; omega
    have k2 : ¬ (7 < (q.length : Int)) := by omega
    have k3 : ¬ ((s.length : Int) < 1) := by omega
    have k4 : ¬ (8 < (s.length : Int)) := by omega
    clear h3 h4 h5 h6
    go_wp2_with (with_reducible first | refine stop_append ?_ | refine stop_copy ?_ | refine stop_make ?_ | refine stop_lookup ?_ | refine stop_update ?_ | refine stop_slice ?_ | refine stop_range ?_ | refine stop_next ?_ | refine stop_convert ⟨_, rfl⟩ ?_ | refine stop_convertB ⟨_, _, _, rfl⟩ ?_ | refine stop_eqSlice ⟨_, _, rfl⟩ ?_)
    refine (Hq.out _ hca).mono ?_
    rintro e w3 ⟨rfl, hc3⟩
    replace a2 := hc3.cell a2 (not_no _)
    have hca3 := hca.trans hc3
    cases qn
    · go_wp2_with (with_reducible first | refine stop_append ?_ | refine stop_copy ?_ | refine stop_make ?_ | refine stop_lookup ?_ | refine stop_update ?_ | refine stop_slice ?_ | refine stop_range ?_ | refine stop_next ?_ | refine stop_convert ⟨_, rfl⟩ ?_ | refine stop_convertB ⟨_, _, _, rfl⟩ ?_ | refine stop_eqSlice ⟨_, _, rfl⟩ ?_)
      go_ret
      exact ⟨by rw [Hr.out]; rfl, hca3⟩
    · go_wp2_with (with_reducible first | refine stop_append ?_ | refine stop_copy ?_ | refine stop_make ?_ | refine stop_lookup ?_ | refine stop_update ?_ | refine stop_slice ?_ | refine stop_range ?_ | refine stop_next ?_ | refine stop_convert ⟨_, rfl⟩ ?_ | refine stop_convertB ⟨_, _, _, rfl⟩ ?_ | refine stop_eqSlice ⟨_, _, rfl⟩ ?_)
      refine (Hc.out _ hca3).mono ?_
      rintro e w4 ⟨rfl, hc4⟩
      go_wp2_with (with_reducible first | refine stop_append ?_ | refine stop_copy ?_ | refine stop_make ?_ | refine stop_lookup ?_ | refine stop_update ?_ | refine stop_slice ?_ | refine stop_range ?_ | refine stop_next ?_ | refine stop_convert ⟨_, rfl⟩ ?_ | refine stop_convertB ⟨_, _, _, rfl⟩ ?_ | refine stop_eqSlice ⟨_, _, rfl⟩ ?_)
      go_ret
      exact ⟨by rw [Hr.out]; rfl, hca3.trans hc4⟩
end Go.Proofs.Yticimjplegbagaa


/- Walks of package entry for a register: Same; rows of entries compared. -/
set_option linter.unusedVariables false
set_option linter.unusedSimpArgs false
namespace Go.Proofs.Yticimjplegbagaa
open Go.RowKit Cb

set_option maxRecDepth 100000 in
set_option maxHeartbeats 1000000 in
theorem esame_any (F G : Nat → Prop) (x y : Ent) (v u : Value) (w : World) (hx : Sl F w v x.2.2.1) (hy : Sl G w u y.2.2.1) (hl : x.2.2.1.length ≤ 1000000) (hl' : y.2.2.1.length ≤ 17592186044416) :
    Calls Try.prog 38 #[entV x v, entV y u] w fun e w' => e = .returned (.bool (decide (x = y))) ∧ Chg No w w' := by
  have Hq := Lib.hid (fun W (hW : Chg No w W) => vequal_any F G v u _ _ W (hx.keepNo hW) (hy.keepNo hW) hl hl')
  obtain ⟨n, k, cut, tag, t, p⟩ := x
  obtain ⟨n', k', cut', tag', t', p'⟩ := y
  simp only at *
  obtain ⟨A, c, rfl⟩ := hx.slice
  obtain ⟨B, d, rfl⟩ := hy.slice
  clear hx hy
  have hr : decide (((n, k, cut, tag, t, p) : Ent) = (n', k', cut', tag', t', p')) = (decide (n = n') && (decide (k = k') && (decide (cut = cut') && (decide (tag = tag') && (decide (t = t') && decide (p = p')))))) := by
    simp only [Prod.mk.injEq, Bool.decide_and]
  rw [hr]
  clear hr
  unfold entV
  simp only
  generalize decide (cut = cut') = cb at *
  have o1 := ((Chg.refl No (w.alloc (.cells #[.int .i64 n, .int .i64 k, .slice A cut.length c, .int .i64 tag, .int .i64 t, .int .i64 p] 76))).alloc (.cells #[.int .i64 n', .int .i64 k', .slice B cut'.length d, .int .i64 tag', .int .i64 t', .int .i64 p'] 76)).obj (alloc_obj w (.cells #[.int .i64 n, .int .i64 k, .slice A cut.length c, .int .i64 tag, .int .i64 t, .int .i64 p] 76)) (not_no _)
  have o2 := alloc_obj (w.alloc (.cells #[.int .i64 n, .int .i64 k, .slice A cut.length c, .int .i64 tag, .int .i64 t, .int .i64 p] 76)) (.cells #[.int .i64 n', .int .i64 k', .slice B cut'.length d, .int .i64 tag', .int .i64 t', .int .i64 p'] 76)
  have hz : (w.alloc (.cells #[.int .i64 n, .int .i64 k, .slice A cut.length c, .int .i64 tag, .int .i64 t, .int .i64 p] 76)).heap.size = w.heap.size + 1 := by simp
  have hc0 := ((Chg.refl No w).alloc (.cells #[.int .i64 n, .int .i64 k, .slice A cut.length c, .int .i64 tag, .int .i64 t, .int .i64 p] 76)).alloc (.cells #[.int .i64 n', .int .i64 k', .slice B cut'.length d, .int .i64 tag', .int .i64 t', .int .i64 p'] 76)
  rw [hz] at o2
  clear hz
  have a0 := cell_obj (i := 0) o1 rfl
  have a1 := cell_obj (i := 1) o1 rfl
  have a2 := cell_obj (i := 2) o1 rfl
  have a3 := cell_obj (i := 3) o1 rfl
  have a4 := cell_obj (i := 4) o1 rfl
  have a5 := cell_obj (i := 5) o1 rfl
  have b0 := cell_obj (i := 0) o2 rfl
  have b1 := cell_obj (i := 1) o2 rfl
  have b2 := cell_obj (i := 2) o2 rfl
  have b3 := cell_obj (i := 3) o2 rfl
  have b4 := cell_obj (i := 4) o2 rfl
  have b5 := cell_obj (i := 5) o2 rfl
  clear o1 o2
  by_cases h1 : n = n'
  · subst h1
    by_cases h2 : k = k'
    · subst h2
      simp only [decide_true, Bool.true_and]
      go_enter Try.func38, Try.ntmps38
      go_wp2_with (with_reducible first | refine stop_append ?_ | refine stop_copy ?_ | refine stop_make ?_ | refine stop_lookup ?_ | refine stop_update ?_ | refine stop_slice ?_ | refine stop_range ?_ | refine stop_next ?_ | refine stop_convert ⟨_, rfl⟩ ?_ | refine stop_convertB ⟨_, _, _, rfl⟩ ?_ | refine stop_eqSlice ⟨_, _, rfl⟩ ?_)
      generalize (w.alloc (.cells #[.int .i64 n, .int .i64 k, .slice A cut.length c, .int .i64 tag, .int .i64 t, .int .i64 p] 76)).alloc (.cells #[.int .i64 n, .int .i64 k, .slice B cut'.length d, .int .i64 tag', .int .i64 t', .int .i64 p'] 76) = w0 at *
      generalize w.heap.size + 1 = q2 at *
      generalize w.heap.size = q1 at *
      refine (Hq.out _ hc0).mono ?_
      rintro e w1 ⟨rfl, hc1⟩
      have hcw1 := hc0.trans hc1
      replace a3 := hc1.cell a3 (not_no _)
      replace a4 := hc1.cell a4 (not_no _)
      replace a5 := hc1.cell a5 (not_no _)
      replace b3 := hc1.cell b3 (not_no _)
      replace b4 := hc1.cell b4 (not_no _)
      replace b5 := hc1.cell b5 (not_no _)
      clear a0 a1 b0 b1 a2 b2 hc1
      cases cb
      · go_wp2_with (with_reducible first | refine stop_append ?_ | refine stop_copy ?_ | refine stop_make ?_ | refine stop_lookup ?_ | refine stop_update ?_ | refine stop_slice ?_ | refine stop_range ?_ | refine stop_next ?_ | refine stop_convert ⟨_, rfl⟩ ?_ | refine stop_convertB ⟨_, _, _, rfl⟩ ?_ | refine stop_eqSlice ⟨_, _, rfl⟩ ?_)
        go_ret
        exact ⟨rfl, hcw1⟩
      · by_cases h3 : tag = tag'
        · subst h3
          by_cases h4 : t = t'
          · subst h4
            by_cases h5 : p = p'
            · subst h5
              go_wp2_with (with_reducible first | refine stop_append ?_ | refine stop_copy ?_ | refine stop_make ?_ | refine stop_lookup ?_ | refine stop_update ?_ | refine stop_slice ?_ | refine stop_range ?_ | refine stop_next ?_ | refine stop_convert ⟨_, rfl⟩ ?_ | refine stop_convertB ⟨_, _, _, rfl⟩ ?_ | refine stop_eqSlice ⟨_, _, rfl⟩ ?_)
              go_ret
              exact ⟨by simp, hcw1⟩
            · have e5 : (p == p') = false := by simpa using h5
              go_wp2_with (with_reducible first | refine stop_append ?_ | refine stop_copy ?_ | refine stop_make ?_ | refine stop_lookup ?_ | refine stop_update ?_ | refine stop_slice ?_ | refine stop_range ?_ | refine stop_next ?_ | refine stop_convert ⟨_, rfl⟩ ?_ | refine stop_convertB ⟨_, _, _, rfl⟩ ?_ | refine stop_eqSlice ⟨_, _, rfl⟩ ?_)
              go_ret
              exact ⟨by simp [h5], hcw1⟩
          · have e4 : (t == t') = false := by simpa using h4
            go_wp2_with (with_reducible first | refine stop_append ?_ | refine stop_copy ?_ | refine stop_make ?_ | refine stop_lookup ?_ | refine stop_update ?_ | refine stop_slice ?_ | refine stop_range ?_ | refine stop_next ?_ | refine stop_convert ⟨_, rfl⟩ ?_ | refine stop_convertB ⟨_, _, _, rfl⟩ ?_ | refine stop_eqSlice ⟨_, _, rfl⟩ ?_)
            go_ret
            exact ⟨by simp [h4], hcw1⟩
        · have e3 : (tag == tag') = false := by simpa using h3
          go_wp2_with (with_reducible first | refine stop_append ?_ | refine stop_copy ?_ | refine stop_make ?_ | refine stop_lookup ?_ | refine stop_update ?_ | refine stop_slice ?_ | refine stop_range ?_ | refine stop_next ?_ | refine stop_convert ⟨_, rfl⟩ ?_ | refine stop_convertB ⟨_, _, _, rfl⟩ ?_ | refine stop_eqSlice ⟨_, _, rfl⟩ ?_)
          go_ret
          exact ⟨by simp [h3], hcw1⟩
    · have h1 : (k == k') = false := by simpa using h2
      rw [decide_eq_false h2]
      clear h2
      go_enter Try.func38, Try.ntmps38
      go_wp2_with (with_reducible first | refine stop_append ?_ | refine stop_copy ?_ | refine stop_make ?_ | refine stop_lookup ?_ | refine stop_update ?_ | refine stop_slice ?_ | refine stop_range ?_ | refine stop_next ?_ | refine stop_convert ⟨_, rfl⟩ ?_ | refine stop_convertB ⟨_, _, _, rfl⟩ ?_ | refine stop_eqSlice ⟨_, _, rfl⟩ ?_)
      go_ret
      exact ⟨by simp, hc0⟩
  · have h2 : (n == n') = false := by simpa using h1
    rw [decide_eq_false h1]
    clear h1
    go_enter Try.func38, Try.ntmps38
    go_wp2_with (with_reducible first | refine stop_append ?_ | refine stop_copy ?_ | refine stop_make ?_ | refine stop_lookup ?_ | refine stop_update ?_ | refine stop_slice ?_ | refine stop_range ?_ | refine stop_next ?_ | refine stop_convert ⟨_, rfl⟩ ?_ | refine stop_convertB ⟨_, _, _, rfl⟩ ?_ | refine stop_eqSlice ⟨_, _, rfl⟩ ?_)
    go_ret
    exact ⟨by simp, hc0⟩
end Go.Proofs.Yticimjplegbagaa


/- Walks for a register: rows of entries compared by entry.Same. -/
set_option linter.unusedVariables false
set_option linter.unusedSimpArgs false
namespace Go.Proofs.Yticimjplegbagaa
open Go.RowKit Cb

set_option maxRecDepth 100000 in
set_option maxHeartbeats 2000000 in
theorem eqents_any (F G : Nat → Prop) (v u : Value) (xs ys : List Ent) (w : World) (h : Sl F w v xs) (h' : Sl G w u ys) (hl : xs.length ≤ 2199023255488) (hl' : ys.length ≤ 17592186044416) (hb : ∀ x ∈ xs, x.2.2.1.length ≤ 1000000) (hb' : ∀ x ∈ ys, x.2.2.1.length ≤ 17592186044416) :
    Calls Try.prog 37 #[v, u, .func (.func 38) #[] #[]] w fun e w' => e = .returned (.bool (decide (xs = ys))) ∧ Chg No w w' := by
  obtain ⟨A, c, rfl⟩ := h.slice
  obtain ⟨B, d, rfl⟩ := h'.slice
  have H := Lib.hid h; have H' := Lib.hid h'; have Hb := Lib.hid hb; have Hb' := Lib.hid hb'
  clear h h' hb hb'
  by_cases hlen : xs.length = ys.length
  · go_enter Try.func37, Try.ntmps37
    have Hlen := Lib.hid hlen
    rw [← hlen] at H' hl' ⊢
    clear hlen
    go_wp2_with (with_reducible first | refine stop_append ?_ | refine stop_copy ?_ | refine stop_make ?_ | refine stop_lookup ?_ | refine stop_update ?_ | refine stop_slice ?_ | refine stop_range ?_ | refine stop_next ?_ | refine stop_convert ⟨_, rfl⟩ ?_ | refine stop_convertB ⟨_, _, _, rfl⟩ ?_ | refine stop_eqSlice ⟨_, _, rfl⟩ ?_)
    go_loopw [7, 17] (fun _ v17 wr => ∃ k : Nat, k ≤ xs.length ∧ v17 = .int .i64 k ∧ Chg No w wr ∧ xs.take k = ys.take k) (fun _ v17 _ => xs.length - (intOf v17).toNat)
    case atStart => exact ⟨0, by omega, rfl, Chg.refl _ _, rfl⟩
    case round =>
      obtain ⟨k, hk, rfl, hc, he⟩ := hrel
      have He := Lib.hid he; clear he
      by_cases hlt : k < xs.length
      · have hlt' : k < ys.length := by have := Hlen.out; omega
        obtain ⟨b, o, vx, rfl, _, hbl, hux, a0, a1, a2, a3, a4, a5⟩ := ent_get (H.out.keepNo hc) k hlt
        have hgy : Sl G w (.slice B xs.length d) ys := H'.out
        obtain ⟨b', o', vy, rfl, _, hbl', huy, c0, c1, c2, c3, c4, c5⟩ := ent_get (hgy.keepNo hc) k hlt'
        have hsx : xs.take (k + 1) = xs.take k ++ [xs[k]] := List.take_succ_eq_append_getElem hlt
        have hsy : ys.take (k + 1) = ys.take k ++ [ys[k]] := List.take_succ_eq_append_getElem hlt'
        have hxy : xs[k] ≠ ys[k] → xs ≠ ys := fun h e => h (by subst e; rfl)
        have hbx := Hb.out _ (List.getElem_mem hlt)
        have hby := Hb'.out _ (List.getElem_mem hlt')
        clear hgy
        generalize xs[k] = x at *
        generalize ys[k] = y at *
        have Hcall := Lib.hid (fun W (hW : Chg No wr W) => esame_any F G x y vx vy W (hux.keepNo hW) (huy.keepNo hW) hbx hby)
        obtain ⟨Ax, cx, rfl⟩ := hux.slice
        obtain ⟨Ay, cy, rfl⟩ := huy.slice
        have Hsx := Lib.hid hsx; have Hsy := Lib.hid hsy; have Hxy := Lib.hid hxy
        clear hsx hsy hxy hux huy
        obtain ⟨res, hres⟩ : ∃ r, r = decide (x = y) := ⟨_, rfl⟩
        rw [← hres] at Hcall
        have Hres := Lib.hid hres
        clear hres
        have Hxe := Lib.hid (show res = true → x = y from fun h => of_decide_eq_true (Hres.out ▸ h))
        have Hxn := Lib.hid (show res = false → x ≠ y from fun h => of_decide_eq_false (Hres.out ▸ h))
        have Hgo := Lib.hid (show res = true → xs.take (k + 1) = ys.take (k + 1) from fun h => by rw [Hsx.out, Hsy.out, He.out, Hxe.out h])
        have Hno := Lib.hid (show res = false → decide (xs = ys) = false from fun h => decide_eq_false (Hxy.out (Hxn.out h)))
        clear Hres Hxe Hxn Hxy Hsx Hsy
        obtain ⟨n, kd, cut, tag, t, p⟩ := x
        obtain ⟨n', kd', cut', tag', t', p'⟩ := y
        unfold entV at Hcall
        simp only at *
        have hcA := (Chg.refl No wr).alloc (.cells #[.int .i64 n, .int .i64 kd, .slice Ax cut.length cx, .int .i64 tag, .int .i64 t, .int .i64 p] 76)
        have o1 := ((Chg.refl No (wr.alloc (.cells #[.int .i64 n, .int .i64 kd, .slice Ax cut.length cx, .int .i64 tag, .int .i64 t, .int .i64 p] 76))).alloc (.cells #[.int .i64 n', .int .i64 kd', .slice Ay cut'.length cy, .int .i64 tag', .int .i64 t', .int .i64 p'] 76)).obj (alloc_obj wr (.cells #[.int .i64 n, .int .i64 kd, .slice Ax cut.length cx, .int .i64 tag, .int .i64 t, .int .i64 p] 76)) (not_no _)
        have o2 := alloc_obj (wr.alloc (.cells #[.int .i64 n, .int .i64 kd, .slice Ax cut.length cx, .int .i64 tag, .int .i64 t, .int .i64 p] 76)) (.cells #[.int .i64 n', .int .i64 kd', .slice Ay cut'.length cy, .int .i64 tag', .int .i64 t', .int .i64 p'] 76)
        have hz : (wr.alloc (.cells #[.int .i64 n, .int .i64 kd, .slice Ax cut.length cx, .int .i64 tag, .int .i64 t, .int .i64 p] 76)).heap.size = wr.heap.size + 1 := by simp
        have hc0 := ((Chg.refl No wr).alloc (.cells #[.int .i64 n, .int .i64 kd, .slice Ax cut.length cx, .int .i64 tag, .int .i64 t, .int .i64 p] 76)).alloc (.cells #[.int .i64 n', .int .i64 kd', .slice Ay cut'.length cy, .int .i64 tag', .int .i64 t', .int .i64 p'] 76)
        rw [hz] at o2
        clear hz
        have e0 := hcA.cell c0 (not_no _)
        have e1 := hcA.cell c1 (not_no _)
        have e2 := hcA.cell c2 (not_no _)
        have e3 := hcA.cell c3 (not_no _)
        have e4 := hcA.cell c4 (not_no _)
        have e5 := hcA.cell c5 (not_no _)
        have g0 := cell_obj (i := 0) o1 rfl
        have g1 := cell_obj (i := 1) o1 rfl
        have g2 := cell_obj (i := 2) o1 rfl
        have g3 := cell_obj (i := 3) o1 rfl
        have g4 := cell_obj (i := 4) o1 rfl
        have g5 := cell_obj (i := 5) o1 rfl
        have f0 := cell_obj (i := 0) o2 rfl
        have f1 := cell_obj (i := 1) o2 rfl
        have f2 := cell_obj (i := 2) o2 rfl
        have f3 := cell_obj (i := 3) o2 rfl
        have f4 := cell_obj (i := 4) o2 rfl
        have f5 := cell_obj (i := 5) o2 rfl
        clear o1 o2 hcA
        cases res with
        | true =>
          have Hg := Lib.hid (Hgo.out rfl)
          clear Hgo Hno
          go_wp2_with (with_reducible first | refine stop_append ?_ | refine stop_copy ?_ | refine stop_make ?_ | refine stop_lookup ?_ | refine stop_update ?_ | refine stop_slice ?_ | refine stop_range ?_ | refine stop_next ?_ | refine stop_convert ⟨_, rfl⟩ ?_ | refine stop_convertB ⟨_, _, _, rfl⟩ ?_ | refine stop_eqSlice ⟨_, _, rfl⟩ ?_)
          refine (Hcall.out _ hc0).mono ?_
          rintro e w3 ⟨rfl, hc3⟩
          have hcw := (hc.trans hc0).trans hc3
          clear a0 a1 a2 a3 a4 a5 c0 c1 c2 c3 c4 c5 e0 e1 e2 e3 e4 e5 g0 g1 g2 g3 g4 g5 f0 f1 f2 f3 f4 f5
          go_wp2_with (with_reducible first | refine stop_append ?_ | refine stop_copy ?_ | refine stop_make ?_ | refine stop_lookup ?_ | refine stop_update ?_ | refine stop_slice ?_ | refine stop_range ?_ | refine stop_next ?_ | refine stop_convert ⟨_, rfl⟩ ?_ | refine stop_convertB ⟨_, _, _, rfl⟩ ?_ | refine stop_eqSlice ⟨_, _, rfl⟩ ?_)
          go_roundw
          case rel => exact ⟨k + 1, by omega, by go_num, hcw, Hg.out⟩
          case measure => simp [intOf]; omega
        | false =>
          have Hg := Lib.hid (Hno.out rfl)
          clear Hgo Hno
          go_wp2_with (with_reducible first | refine stop_append ?_ | refine stop_copy ?_ | refine stop_make ?_ | refine stop_lookup ?_ | refine stop_update ?_ | refine stop_slice ?_ | refine stop_range ?_ | refine stop_next ?_ | refine stop_convert ⟨_, rfl⟩ ?_ | refine stop_convertB ⟨_, _, _, rfl⟩ ?_ | refine stop_eqSlice ⟨_, _, rfl⟩ ?_)
          refine (Hcall.out _ hc0).mono ?_
          rintro e w3 ⟨rfl, hc3⟩
          have hcw := (hc.trans hc0).trans hc3
          clear a0 a1 a2 a3 a4 a5 c0 c1 c2 c3 c4 c5 e0 e1 e2 e3 e4 e5 g0 g1 g2 g3 g4 g5 f0 f1 f2 f3 f4 f5
          go_wp2_with (with_reducible first | refine stop_append ?_ | refine stop_copy ?_ | refine stop_make ?_ | refine stop_lookup ?_ | refine stop_update ?_ | refine stop_slice ?_ | refine stop_range ?_ | refine stop_next ?_ | refine stop_convert ⟨_, rfl⟩ ?_ | refine stop_convertB ⟨_, _, _, rfl⟩ ?_ | refine stop_eqSlice ⟨_, _, rfl⟩ ?_)
          go_ret
          exact ⟨by rw [Hg.out]; rfl, hcw⟩
      · obtain rfl : k = xs.length := by omega
        have he := He.out
        rw [List.take_length, Hlen.out, List.take_length] at he
        have Heq := Lib.hid he
        clear he He
        go_wp2_with (with_reducible first | refine stop_append ?_ | refine stop_copy ?_ | refine stop_make ?_ | refine stop_lookup ?_ | refine stop_update ?_ | refine stop_slice ?_ | refine stop_range ?_ | refine stop_next ?_ | refine stop_convert ⟨_, rfl⟩ ?_ | refine stop_convertB ⟨_, _, _, rfl⟩ ?_ | refine stop_eqSlice ⟨_, _, rfl⟩ ?_)
        go_ret
        exact ⟨by simp [Heq.out], hc⟩
  · have hne : ((xs.length : Int) != ys.length) = true := by simp; omega
    have hne2 : ((xs.length : Int) == ys.length) = false := by simp; omega
    have Hn := Lib.hid (show xs ≠ ys from fun e => hlen (by rw [e]))
    clear hlen
    go_enter Try.func37, Try.ntmps37
    go_wp2_with (with_reducible first | refine stop_append ?_ | refine stop_copy ?_ | refine stop_make ?_ | refine stop_lookup ?_ | refine stop_update ?_ | refine stop_slice ?_ | refine stop_range ?_ | refine stop_next ?_ | refine stop_convert ⟨_, rfl⟩ ?_ | refine stop_convertB ⟨_, _, _, rfl⟩ ?_ | refine stop_eqSlice ⟨_, _, rfl⟩ ?_)
    go_ret
    exact ⟨by simp [Hn.out], Chg.refl _ _⟩
end Go.Proofs.Yticimjplegbagaa


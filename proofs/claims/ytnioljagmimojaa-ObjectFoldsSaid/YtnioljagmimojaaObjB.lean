/- Walks of package object: rows of reads and writes that are asked by a closure; Right. -/
import Derived.Test.YtnioljagmimojaaObjA
set_option linter.unusedVariables false
set_option linter.unusedSimpArgs false
namespace Go.Proofs.Ytnioljagmimojaa
open Go.RowKit Cb

def idxF {α : Type} (p : α → Bool) (xs : List α) : Int := match xs.findIdx? p with | some i => i | none => -1
set_option maxRecDepth 100000 in
set_option maxHeartbeats 1000000 in
theorem indexRead_any (F : Nat → Prop) (v : Value) (xs : List (Int × Int)) (p : (Int × Int) → Bool) (g : FuncId) (hg : ∀ args W, (callFunc g args).run Try.prog W = .ok (.enter g args) W) (cv : Value) (w : World) (hs : Sl F w v xs) (hl : xs.length * 16 ≤ 140737488351232)
    (hp : ∀ x W, Chg No w W → Calls Try.prog g #[.agg #[.int .i64 x.1, .int .i64 x.2]] W fun e w' => e = .returned (.bool (p x)) ∧ Chg No W w') :
    Calls Try.prog 66 #[v, .func (.func g) #[] #[]] w fun e w' => e = .returned (.int .i64 (idxF p xs)) ∧ Chg No w w' := by
  obtain ⟨A, c, rfl, hc, _⟩ := id hs
  have Hp := Lib.hid hp; clear hp
  go_enter Try.func66, Try.ntmps66
  go_wp2_with (first | (with_reducible refine stop_append ?_) | (with_reducible refine stop_copy ?_) | (with_reducible refine stop_make ?_) | (with_reducible refine stop_lookup ?_) | (with_reducible refine stop_update ?_) | (with_reducible refine stop_slice ?_) | (with_reducible refine stop_range ?_) | (with_reducible refine stop_next ?_) | (with_reducible refine stop_convert ⟨_, rfl⟩ ?_) | (with_reducible refine stop_convertB ⟨_, _, _, rfl⟩ ?_) | (with_reducible refine stop_eqSlice ⟨_, _, rfl⟩ ?_))
  go_loopw [8] (fun v8 wr => ∃ k : Nat, k ≤ xs.length ∧ v8 = .int .i64 k ∧ Chg No w wr ∧ ∀ i (h : i < xs.length), i < k → p xs[i] = false) (fun v8 _ => xs.length - (intOf v8).toNat)
  case atStart => exact ⟨0, by omega, rfl, Chg.refl _ _, fun _ _ h => absurd h (by omega)⟩
  case round =>
    obtain ⟨k, hk, rfl, hc1, hall⟩ := hrel
    have Hall := Lib.hid hall; clear hall
    by_cases hlt : k < xs.length
    · obtain ⟨b, o, d, rfl, _, hbl, ⟨d1, d2, rfl, rfl, rfl⟩, ha⟩ := (hs.keepNo hc1).get k hlt
      have ha0 := ha 0 _ rfl
      have ha1 := ha 1 _ rfl
      simp only [show Rep.n (Int × Int) = 2 from rfl, Nat.add_zero] at ha0 ha1
      clear ha hs
      generalize hx : xs[k] = x at ha0 ha1
      have Hx := Lib.hid hx; clear hx
      have hcall := Hp.out x wr hc1
      obtain ⟨x1, x2⟩ := x
      simp only at ha0 ha1 hcall
      have Hcall := Lib.hid hcall; clear hcall
      by_cases hpx : p (x1, x2) = true
      · have hi : idxF p xs = k := by
          simp only [idxF]
          rw [show xs.findIdx? p = some k from List.findIdx?_eq_some_iff_getElem.2 ⟨hlt, by rw [Hx.out]; exact hpx, fun j hj => by rw [Hall.out j (by omega) hj]; simp⟩]
        have Hi := Lib.hid hi
        have Hpx := Lib.hid hpx
        clear hi hpx
        go_wp2_with (first | (with_reducible refine stop_append ?_) | (with_reducible refine stop_copy ?_) | (with_reducible refine stop_make ?_) | (with_reducible refine stop_lookup ?_) | (with_reducible refine stop_update ?_) | (with_reducible refine stop_slice ?_) | (with_reducible refine stop_range ?_) | (with_reducible refine stop_next ?_) | (with_reducible refine stop_convert ⟨_, rfl⟩ ?_) | (with_reducible refine stop_convertB ⟨_, _, _, rfl⟩ ?_) | (with_reducible refine stop_eqSlice ⟨_, _, rfl⟩ ?_))
        refine Hcall.out.mono ?_
        rw [Hpx.out]
        rintro e w1 ⟨rfl, hc2⟩
        go_wp2_with (first | (with_reducible refine stop_append ?_) | (with_reducible refine stop_copy ?_) | (with_reducible refine stop_make ?_) | (with_reducible refine stop_lookup ?_) | (with_reducible refine stop_update ?_) | (with_reducible refine stop_slice ?_) | (with_reducible refine stop_range ?_) | (with_reducible refine stop_next ?_) | (with_reducible refine stop_convert ⟨_, rfl⟩ ?_) | (with_reducible refine stop_convertB ⟨_, _, _, rfl⟩ ?_) | (with_reducible refine stop_eqSlice ⟨_, _, rfl⟩ ?_))
        go_ret
        rw [Hi.out]
        exact ⟨rfl, hc1.trans hc2⟩
      · have hpx : p (x1, x2) = false := by simpa using hpx
        have Hpx := Lib.hid hpx
        clear hpx
        go_wp2_with (first | (with_reducible refine stop_append ?_) | (with_reducible refine stop_copy ?_) | (with_reducible refine stop_make ?_) | (with_reducible refine stop_lookup ?_) | (with_reducible refine stop_update ?_) | (with_reducible refine stop_slice ?_) | (with_reducible refine stop_range ?_) | (with_reducible refine stop_next ?_) | (with_reducible refine stop_convert ⟨_, rfl⟩ ?_) | (with_reducible refine stop_convertB ⟨_, _, _, rfl⟩ ?_) | (with_reducible refine stop_eqSlice ⟨_, _, rfl⟩ ?_))
        refine Hcall.out.mono ?_
        rw [Hpx.out]
        rintro e w1 ⟨rfl, hc2⟩
        go_wp2_with (first | (with_reducible refine stop_append ?_) | (with_reducible refine stop_copy ?_) | (with_reducible refine stop_make ?_) | (with_reducible refine stop_lookup ?_) | (with_reducible refine stop_update ?_) | (with_reducible refine stop_slice ?_) | (with_reducible refine stop_range ?_) | (with_reducible refine stop_next ?_) | (with_reducible refine stop_convert ⟨_, rfl⟩ ?_) | (with_reducible refine stop_convertB ⟨_, _, _, rfl⟩ ?_) | (with_reducible refine stop_eqSlice ⟨_, _, rfl⟩ ?_))
        go_roundw
        case rel => exact ⟨k + 1, by omega, by go_num, hc1.trans hc2, fun i h hi => by
          rcases Nat.lt_or_ge i k with h' | h'
          · exact Hall.out i h h'
          · obtain rfl : i = k := by omega
            rw [Hx.out]; exact Hpx.out⟩
        case measure => simp [intOf]; omega
    · have hi : idxF p xs = -1 := by
        simp only [idxF]
        rw [List.findIdx?_eq_none_iff.2 (fun x hx => by
          obtain ⟨i, hi, rfl⟩ := List.mem_iff_getElem.1 hx
          exact Hall.out i hi (by omega))]
      have Hi := Lib.hid hi
      clear hi hs
      go_wp2_with (first | (with_reducible refine stop_append ?_) | (with_reducible refine stop_copy ?_) | (with_reducible refine stop_make ?_) | (with_reducible refine stop_lookup ?_) | (with_reducible refine stop_update ?_) | (with_reducible refine stop_slice ?_) | (with_reducible refine stop_range ?_) | (with_reducible refine stop_next ?_) | (with_reducible refine stop_convert ⟨_, rfl⟩ ?_) | (with_reducible refine stop_convertB ⟨_, _, _, rfl⟩ ?_) | (with_reducible refine stop_eqSlice ⟨_, _, rfl⟩ ?_))
      go_ret
      rw [Hi.out]
      exact ⟨rfl, hc1⟩
theorem containsRead_any (F : Nat → Prop) (v : Value) (xs : List (Int × Int)) (p : (Int × Int) → Bool) (g : FuncId) (hg : ∀ args W, (callFunc g args).run Try.prog W = .ok (.enter g args) W) (cv : Value) (w : World) (hs : Sl F w v xs) (hl : xs.length * 16 ≤ 140737488351232)
    (hp : ∀ x W, Chg No w W → Calls Try.prog g #[.agg #[.int .i64 x.1, .int .i64 x.2]] W fun e w' => e = .returned (.bool (p x)) ∧ Chg No W w') :
    Calls Try.prog 51 #[v, .func (.func g) #[] #[]] w fun e w' => e = .returned (.bool (xs.any p)) ∧ Chg No w w' := by
  have Hcall := Lib.hid (indexRead_any F v xs p g hg cv w hs hl hp)
  clear hp hs
  have hr : (0 ≤ idxF p xs ∧ xs.any p = true) ∨ (idxF p xs < 0 ∧ xs.any p = false) := by
    simp only [idxF]
    cases h : xs.findIdx? p with
    | some i =>
      left
      obtain ⟨hi, hpi, _⟩ := List.findIdx?_eq_some_iff_getElem.1 h
      exact ⟨by simp, List.any_eq_true.2 ⟨_, List.getElem_mem hi, hpi⟩⟩
    | none =>
      right
      exact ⟨by simp, by rw [List.any_eq_false]; intro x hx; rw [List.findIdx?_eq_none_iff.1 h x hx]; simp⟩
  generalize idxF p xs = i at Hcall hr
  generalize xs.any p = r at hr ⊢
  rcases hr with ⟨hi, hr⟩ | ⟨hi, hr⟩
  all_goals
    have Hr := Lib.hid hr; clear hr
    have hib := hi
    go_enter Try.func51, Try.ntmps51
    go_wp2_with (first | (with_reducible refine stop_append ?_) | (with_reducible refine stop_copy ?_) | (with_reducible refine stop_make ?_) | (with_reducible refine stop_lookup ?_) | (with_reducible refine stop_update ?_) | (with_reducible refine stop_slice ?_) | (with_reducible refine stop_range ?_) | (with_reducible refine stop_next ?_) | (with_reducible refine stop_convert ⟨_, rfl⟩ ?_) | (with_reducible refine stop_convertB ⟨_, _, _, rfl⟩ ?_) | (with_reducible refine stop_eqSlice ⟨_, _, rfl⟩ ?_))
    refine Hcall.out.mono ?_
    rintro e w1 ⟨rfl, hc2⟩
    go_wp2_with (first | (with_reducible refine stop_append ?_) | (with_reducible refine stop_copy ?_) | (with_reducible refine stop_make ?_) | (with_reducible refine stop_lookup ?_) | (with_reducible refine stop_update ?_) | (with_reducible refine stop_slice ?_) | (with_reducible refine stop_range ?_) | (with_reducible refine stop_next ?_) | (with_reducible refine stop_convert ⟨_, rfl⟩ ?_) | (with_reducible refine stop_convertB ⟨_, _, _, rfl⟩ ?_) | (with_reducible refine stop_eqSlice ⟨_, _, rfl⟩ ?_))
    go_ret
    rw [Hr.out]
    exact ⟨by simp [hi], hc2⟩
set_option maxRecDepth 100000 in
set_option maxHeartbeats 1000000 in
theorem indexRead1_any (F : Nat → Prop) (v : Value) (xs : List (Int × Int)) (p : (Int × Int) → Bool) (g : FuncId) (hg : ∀ args W, (callFunc g args).run Try.prog W = .ok (.enter g args) W) (cv : Value) (w : World) (hs : Sl F w v xs) (hl : xs.length * 16 ≤ 140737488351232)
    (hp : ∀ x W, Chg No w W → Calls Try.prog g #[.agg #[.int .i64 x.1, .int .i64 x.2], cv] W fun e w' => e = .returned (.bool (p x)) ∧ Chg No W w') :
    Calls Try.prog 66 #[v, .func (.func g) #[] #[cv]] w fun e w' => e = .returned (.int .i64 (idxF p xs)) ∧ Chg No w w' := by
  obtain ⟨A, c, rfl, hc, _⟩ := id hs
  have Hp := Lib.hid hp; clear hp
  go_enter Try.func66, Try.ntmps66
  go_wp2_with (first | (with_reducible refine stop_append ?_) | (with_reducible refine stop_copy ?_) | (with_reducible refine stop_make ?_) | (with_reducible refine stop_lookup ?_) | (with_reducible refine stop_update ?_) | (with_reducible refine stop_slice ?_) | (with_reducible refine stop_range ?_) | (with_reducible refine stop_next ?_) | (with_reducible refine stop_convert ⟨_, rfl⟩ ?_) | (with_reducible refine stop_convertB ⟨_, _, _, rfl⟩ ?_) | (with_reducible refine stop_eqSlice ⟨_, _, rfl⟩ ?_))
  go_loopw [8] (fun v8 wr => ∃ k : Nat, k ≤ xs.length ∧ v8 = .int .i64 k ∧ Chg No w wr ∧ ∀ i (h : i < xs.length), i < k → p xs[i] = false) (fun v8 _ => xs.length - (intOf v8).toNat)
  case atStart => exact ⟨0, by omega, rfl, Chg.refl _ _, fun _ _ h => absurd h (by omega)⟩
  case round =>
    obtain ⟨k, hk, rfl, hc1, hall⟩ := hrel
    have Hall := Lib.hid hall; clear hall
    by_cases hlt : k < xs.length
    · obtain ⟨b, o, d, rfl, _, hbl, ⟨d1, d2, rfl, rfl, rfl⟩, ha⟩ := (hs.keepNo hc1).get k hlt
      have ha0 := ha 0 _ rfl
      have ha1 := ha 1 _ rfl
      simp only [show Rep.n (Int × Int) = 2 from rfl, Nat.add_zero] at ha0 ha1
      clear ha hs
      generalize hx : xs[k] = x at ha0 ha1
      have Hx := Lib.hid hx; clear hx
      have hcall := Hp.out x wr hc1
      obtain ⟨x1, x2⟩ := x
      simp only at ha0 ha1 hcall
      have Hcall := Lib.hid hcall; clear hcall
      by_cases hpx : p (x1, x2) = true
      · have hi : idxF p xs = k := by
          simp only [idxF]
          rw [show xs.findIdx? p = some k from List.findIdx?_eq_some_iff_getElem.2 ⟨hlt, by rw [Hx.out]; exact hpx, fun j hj => by rw [Hall.out j (by omega) hj]; simp⟩]
        have Hi := Lib.hid hi
        have Hpx := Lib.hid hpx
        clear hi hpx
        go_wp2_with (first | (with_reducible refine stop_append ?_) | (with_reducible refine stop_copy ?_) | (with_reducible refine stop_make ?_) | (with_reducible refine stop_lookup ?_) | (with_reducible refine stop_update ?_) | (with_reducible refine stop_slice ?_) | (with_reducible refine stop_range ?_) | (with_reducible refine stop_next ?_) | (with_reducible refine stop_convert ⟨_, rfl⟩ ?_) | (with_reducible refine stop_convertB ⟨_, _, _, rfl⟩ ?_) | (with_reducible refine stop_eqSlice ⟨_, _, rfl⟩ ?_))
        refine Hcall.out.mono ?_
        rw [Hpx.out]
        rintro e w1 ⟨rfl, hc2⟩
        go_wp2_with (first | (with_reducible refine stop_append ?_) | (with_reducible refine stop_copy ?_) | (with_reducible refine stop_make ?_) | (with_reducible refine stop_lookup ?_) | (with_reducible refine stop_update ?_) | (with_reducible refine stop_slice ?_) | (with_reducible refine stop_range ?_) | (with_reducible refine stop_next ?_) | (with_reducible refine stop_convert ⟨_, rfl⟩ ?_) | (with_reducible refine stop_convertB ⟨_, _, _, rfl⟩ ?_) | (with_reducible refine stop_eqSlice ⟨_, _, rfl⟩ ?_))
        go_ret
        rw [Hi.out]
        exact ⟨rfl, hc1.trans hc2⟩
      · have hpx : p (x1, x2) = false := by simpa using hpx
        have Hpx := Lib.hid hpx
        clear hpx
        go_wp2_with (first | (with_reducible refine stop_append ?_) | (with_reducible refine stop_copy ?_) | (with_reducible refine stop_make ?_) | (with_reducible refine stop_lookup ?_) | (with_reducible refine stop_update ?_) | (with_reducible refine stop_slice ?_) | (with_reducible refine stop_range ?_) | (with_reducible refine stop_next ?_) | (with_reducible refine stop_convert ⟨_, rfl⟩ ?_) | (with_reducible refine stop_convertB ⟨_, _, _, rfl⟩ ?_) | (with_reducible refine stop_eqSlice ⟨_, _, rfl⟩ ?_))
        refine Hcall.out.mono ?_
        rw [Hpx.out]
        rintro e w1 ⟨rfl, hc2⟩
        go_wp2_with (first | (with_reducible refine stop_append ?_) | (with_reducible refine stop_copy ?_) | (with_reducible refine stop_make ?_) | (with_reducible refine stop_lookup ?_) | (with_reducible refine stop_update ?_) | (with_reducible refine stop_slice ?_) | (with_reducible refine stop_range ?_) | (with_reducible refine stop_next ?_) | (with_reducible refine stop_convert ⟨_, rfl⟩ ?_) | (with_reducible refine stop_convertB ⟨_, _, _, rfl⟩ ?_) | (with_reducible refine stop_eqSlice ⟨_, _, rfl⟩ ?_))
        go_roundw
        case rel => exact ⟨k + 1, by omega, by go_num, hc1.trans hc2, fun i h hi => by
          rcases Nat.lt_or_ge i k with h' | h'
          · exact Hall.out i h h'
          · obtain rfl : i = k := by omega
            rw [Hx.out]; exact Hpx.out⟩
        case measure => simp [intOf]; omega
    · have hi : idxF p xs = -1 := by
        simp only [idxF]
        rw [List.findIdx?_eq_none_iff.2 (fun x hx => by
          obtain ⟨i, hi, rfl⟩ := List.mem_iff_getElem.1 hx
          exact Hall.out i hi (by omega))]
      have Hi := Lib.hid hi
      clear hi hs
      go_wp2_with (first | (with_reducible refine stop_append ?_) | (with_reducible refine stop_copy ?_) | (with_reducible refine stop_make ?_) | (with_reducible refine stop_lookup ?_) | (with_reducible refine stop_update ?_) | (with_reducible refine stop_slice ?_) | (with_reducible refine stop_range ?_) | (with_reducible refine stop_next ?_) | (with_reducible refine stop_convert ⟨_, rfl⟩ ?_) | (with_reducible refine stop_convertB ⟨_, _, _, rfl⟩ ?_) | (with_reducible refine stop_eqSlice ⟨_, _, rfl⟩ ?_))
      go_ret
      rw [Hi.out]
      exact ⟨rfl, hc1⟩
theorem containsRead1_any (F : Nat → Prop) (v : Value) (xs : List (Int × Int)) (p : (Int × Int) → Bool) (g : FuncId) (hg : ∀ args W, (callFunc g args).run Try.prog W = .ok (.enter g args) W) (cv : Value) (w : World) (hs : Sl F w v xs) (hl : xs.length * 16 ≤ 140737488351232)
    (hp : ∀ x W, Chg No w W → Calls Try.prog g #[.agg #[.int .i64 x.1, .int .i64 x.2], cv] W fun e w' => e = .returned (.bool (p x)) ∧ Chg No W w') :
    Calls Try.prog 51 #[v, .func (.func g) #[] #[cv]] w fun e w' => e = .returned (.bool (xs.any p)) ∧ Chg No w w' := by
  have Hcall := Lib.hid (indexRead1_any F v xs p g hg cv w hs hl hp)
  clear hp hs
  have hr : (0 ≤ idxF p xs ∧ xs.any p = true) ∨ (idxF p xs < 0 ∧ xs.any p = false) := by
    simp only [idxF]
    cases h : xs.findIdx? p with
    | some i =>
      left
      obtain ⟨hi, hpi, _⟩ := List.findIdx?_eq_some_iff_getElem.1 h
      exact ⟨by simp, List.any_eq_true.2 ⟨_, List.getElem_mem hi, hpi⟩⟩
    | none =>
      right
      exact ⟨by simp, by rw [List.any_eq_false]; intro x hx; rw [List.findIdx?_eq_none_iff.1 h x hx]; simp⟩
  generalize idxF p xs = i at Hcall hr
  generalize xs.any p = r at hr ⊢
  rcases hr with ⟨hi, hr⟩ | ⟨hi, hr⟩
  all_goals
    have Hr := Lib.hid hr; clear hr
    have hib := hi
    go_enter Try.func51, Try.ntmps51
    go_wp2_with (first | (with_reducible refine stop_append ?_) | (with_reducible refine stop_copy ?_) | (with_reducible refine stop_make ?_) | (with_reducible refine stop_lookup ?_) | (with_reducible refine stop_update ?_) | (with_reducible refine stop_slice ?_) | (with_reducible refine stop_range ?_) | (with_reducible refine stop_next ?_) | (with_reducible refine stop_convert ⟨_, rfl⟩ ?_) | (with_reducible refine stop_convertB ⟨_, _, _, rfl⟩ ?_) | (with_reducible refine stop_eqSlice ⟨_, _, rfl⟩ ?_))
    refine Hcall.out.mono ?_
    rintro e w1 ⟨rfl, hc2⟩
    go_wp2_with (first | (with_reducible refine stop_append ?_) | (with_reducible refine stop_copy ?_) | (with_reducible refine stop_make ?_) | (with_reducible refine stop_lookup ?_) | (with_reducible refine stop_update ?_) | (with_reducible refine stop_slice ?_) | (with_reducible refine stop_range ?_) | (with_reducible refine stop_next ?_) | (with_reducible refine stop_convert ⟨_, rfl⟩ ?_) | (with_reducible refine stop_convertB ⟨_, _, _, rfl⟩ ?_) | (with_reducible refine stop_eqSlice ⟨_, _, rfl⟩ ?_))
    go_ret
    rw [Hr.out]
    exact ⟨by simp [hi], hc2⟩
set_option maxRecDepth 100000 in
set_option maxHeartbeats 1000000 in
theorem indexWrite_any (F : Nat → Prop) (v : Value) (xs : List (Int × ByteArray)) (p : (Int × ByteArray) → Bool) (g : FuncId) (hg : ∀ args W, (callFunc g args).run Try.prog W = .ok (.enter g args) W) (cv : Value) (w : World) (hs : Sl F w v xs) (hl : xs.length * 16 ≤ 140737488351232)
    (hp : ∀ x W, Chg No w W → Calls Try.prog g #[.agg #[.int .i64 x.1, .string x.2]] W fun e w' => e = .returned (.bool (p x)) ∧ Chg No W w') :
    Calls Try.prog 67 #[v, .func (.func g) #[] #[]] w fun e w' => e = .returned (.int .i64 (idxF p xs)) ∧ Chg No w w' := by
  obtain ⟨A, c, rfl, hc, _⟩ := id hs
  have Hp := Lib.hid hp; clear hp
  go_enter Try.func67, Try.ntmps67
  go_wp2_with (first | (with_reducible refine stop_append ?_) | (with_reducible refine stop_copy ?_) | (with_reducible refine stop_make ?_) | (with_reducible refine stop_lookup ?_) | (with_reducible refine stop_update ?_) | (with_reducible refine stop_slice ?_) | (with_reducible refine stop_range ?_) | (with_reducible refine stop_next ?_) | (with_reducible refine stop_convert ⟨_, rfl⟩ ?_) | (with_reducible refine stop_convertB ⟨_, _, _, rfl⟩ ?_) | (with_reducible refine stop_eqSlice ⟨_, _, rfl⟩ ?_))
  go_loopw [8] (fun v8 wr => ∃ k : Nat, k ≤ xs.length ∧ v8 = .int .i64 k ∧ Chg No w wr ∧ ∀ i (h : i < xs.length), i < k → p xs[i] = false) (fun v8 _ => xs.length - (intOf v8).toNat)
  case atStart => exact ⟨0, by omega, rfl, Chg.refl _ _, fun _ _ h => absurd h (by omega)⟩
  case round =>
    obtain ⟨k, hk, rfl, hc1, hall⟩ := hrel
    have Hall := Lib.hid hall; clear hall
    by_cases hlt : k < xs.length
    · obtain ⟨b, o, d, rfl, _, hbl, ⟨d1, d2, rfl, rfl, rfl⟩, ha⟩ := (hs.keepNo hc1).get k hlt
      have ha0 := ha 0 _ rfl
      have ha1 := ha 1 _ rfl
      simp only [show Rep.n (Int × ByteArray) = 2 from rfl, Nat.add_zero] at ha0 ha1
      clear ha hs
      generalize hx : xs[k] = x at ha0 ha1
      have Hx := Lib.hid hx; clear hx
      have hcall := Hp.out x wr hc1
      obtain ⟨x1, x2⟩ := x
      simp only at ha0 ha1 hcall
      have Hcall := Lib.hid hcall; clear hcall
      by_cases hpx : p (x1, x2) = true
      · have hi : idxF p xs = k := by
          simp only [idxF]
          rw [show xs.findIdx? p = some k from List.findIdx?_eq_some_iff_getElem.2 ⟨hlt, by rw [Hx.out]; exact hpx, fun j hj => by rw [Hall.out j (by omega) hj]; simp⟩]
        have Hi := Lib.hid hi
        have Hpx := Lib.hid hpx
        clear hi hpx
        go_wp2_with (first | (with_reducible refine stop_append ?_) | (with_reducible refine stop_copy ?_) | (with_reducible refine stop_make ?_) | (with_reducible refine stop_lookup ?_) | (with_reducible refine stop_update ?_) | (with_reducible refine stop_slice ?_) | (with_reducible refine stop_range ?_) | (with_reducible refine stop_next ?_) | (with_reducible refine stop_convert ⟨_, rfl⟩ ?_) | (with_reducible refine stop_convertB ⟨_, _, _, rfl⟩ ?_) | (with_reducible refine stop_eqSlice ⟨_, _, rfl⟩ ?_))
        refine Hcall.out.mono ?_
        rw [Hpx.out]
        rintro e w1 ⟨rfl, hc2⟩
        go_wp2_with (first | (with_reducible refine stop_append ?_) | (with_reducible refine stop_copy ?_) | (with_reducible refine stop_make ?_) | (with_reducible refine stop_lookup ?_) | (with_reducible refine stop_update ?_) | (with_reducible refine stop_slice ?_) | (with_reducible refine stop_range ?_) | (with_reducible refine stop_next ?_) | (with_reducible refine stop_convert ⟨_, rfl⟩ ?_) | (with_reducible refine stop_convertB ⟨_, _, _, rfl⟩ ?_) | (with_reducible refine stop_eqSlice ⟨_, _, rfl⟩ ?_))
        go_ret
        rw [Hi.out]
        exact ⟨rfl, hc1.trans hc2⟩
      · have hpx : p (x1, x2) = false := by simpa using hpx
        have Hpx := Lib.hid hpx
        clear hpx
        go_wp2_with (first | (with_reducible refine stop_append ?_) | (with_reducible refine stop_copy ?_) | (with_reducible refine stop_make ?_) | (with_reducible refine stop_lookup ?_) | (with_reducible refine stop_update ?_) | (with_reducible refine stop_slice ?_) | (with_reducible refine stop_range ?_) | (with_reducible refine stop_next ?_) | (with_reducible refine stop_convert ⟨_, rfl⟩ ?_) | (with_reducible refine stop_convertB ⟨_, _, _, rfl⟩ ?_) | (with_reducible refine stop_eqSlice ⟨_, _, rfl⟩ ?_))
        refine Hcall.out.mono ?_
        rw [Hpx.out]
        rintro e w1 ⟨rfl, hc2⟩
        go_wp2_with (first | (with_reducible refine stop_append ?_) | (with_reducible refine stop_copy ?_) | (with_reducible refine stop_make ?_) | (with_reducible refine stop_lookup ?_) | (with_reducible refine stop_update ?_) | (with_reducible refine stop_slice ?_) | (with_reducible refine stop_range ?_) | (with_reducible refine stop_next ?_) | (with_reducible refine stop_convert ⟨_, rfl⟩ ?_) | (with_reducible refine stop_convertB ⟨_, _, _, rfl⟩ ?_) | (with_reducible refine stop_eqSlice ⟨_, _, rfl⟩ ?_))
        go_roundw
        case rel => exact ⟨k + 1, by omega, by go_num, hc1.trans hc2, fun i h hi => by
          rcases Nat.lt_or_ge i k with h' | h'
          · exact Hall.out i h h'
          · obtain rfl : i = k := by omega
            rw [Hx.out]; exact Hpx.out⟩
        case measure => simp [intOf]; omega
    · have hi : idxF p xs = -1 := by
        simp only [idxF]
        rw [List.findIdx?_eq_none_iff.2 (fun x hx => by
          obtain ⟨i, hi, rfl⟩ := List.mem_iff_getElem.1 hx
          exact Hall.out i hi (by omega))]
      have Hi := Lib.hid hi
      clear hi hs
      go_wp2_with (first | (with_reducible refine stop_append ?_) | (with_reducible refine stop_copy ?_) | (with_reducible refine stop_make ?_) | (with_reducible refine stop_lookup ?_) | (with_reducible refine stop_update ?_) | (with_reducible refine stop_slice ?_) | (with_reducible refine stop_range ?_) | (with_reducible refine stop_next ?_) | (with_reducible refine stop_convert ⟨_, rfl⟩ ?_) | (with_reducible refine stop_convertB ⟨_, _, _, rfl⟩ ?_) | (with_reducible refine stop_eqSlice ⟨_, _, rfl⟩ ?_))
      go_ret
      rw [Hi.out]
      exact ⟨rfl, hc1⟩
theorem containsWrite_any (F : Nat → Prop) (v : Value) (xs : List (Int × ByteArray)) (p : (Int × ByteArray) → Bool) (g : FuncId) (hg : ∀ args W, (callFunc g args).run Try.prog W = .ok (.enter g args) W) (cv : Value) (w : World) (hs : Sl F w v xs) (hl : xs.length * 16 ≤ 140737488351232)
    (hp : ∀ x W, Chg No w W → Calls Try.prog g #[.agg #[.int .i64 x.1, .string x.2]] W fun e w' => e = .returned (.bool (p x)) ∧ Chg No W w') :
    Calls Try.prog 53 #[v, .func (.func g) #[] #[]] w fun e w' => e = .returned (.bool (xs.any p)) ∧ Chg No w w' := by
  have Hcall := Lib.hid (indexWrite_any F v xs p g hg cv w hs hl hp)
  clear hp hs
  have hr : (0 ≤ idxF p xs ∧ xs.any p = true) ∨ (idxF p xs < 0 ∧ xs.any p = false) := by
    simp only [idxF]
    cases h : xs.findIdx? p with
    | some i =>
      left
      obtain ⟨hi, hpi, _⟩ := List.findIdx?_eq_some_iff_getElem.1 h
      exact ⟨by simp, List.any_eq_true.2 ⟨_, List.getElem_mem hi, hpi⟩⟩
    | none =>
      right
      exact ⟨by simp, by rw [List.any_eq_false]; intro x hx; rw [List.findIdx?_eq_none_iff.1 h x hx]; simp⟩
  generalize idxF p xs = i at Hcall hr
  generalize xs.any p = r at hr ⊢
  rcases hr with ⟨hi, hr⟩ | ⟨hi, hr⟩
  all_goals
    have Hr := Lib.hid hr; clear hr
    have hib := hi
    go_enter Try.func53, Try.ntmps53
    go_wp2_with (first | (with_reducible refine stop_append ?_) | (with_reducible refine stop_copy ?_) | (with_reducible refine stop_make ?_) | (with_reducible refine stop_lookup ?_) | (with_reducible refine stop_update ?_) | (with_reducible refine stop_slice ?_) | (with_reducible refine stop_range ?_) | (with_reducible refine stop_next ?_) | (with_reducible refine stop_convert ⟨_, rfl⟩ ?_) | (with_reducible refine stop_convertB ⟨_, _, _, rfl⟩ ?_) | (with_reducible refine stop_eqSlice ⟨_, _, rfl⟩ ?_))
    refine Hcall.out.mono ?_
    rintro e w1 ⟨rfl, hc2⟩
    go_wp2_with (first | (with_reducible refine stop_append ?_) | (with_reducible refine stop_copy ?_) | (with_reducible refine stop_make ?_) | (with_reducible refine stop_lookup ?_) | (with_reducible refine stop_update ?_) | (with_reducible refine stop_slice ?_) | (with_reducible refine stop_range ?_) | (with_reducible refine stop_next ?_) | (with_reducible refine stop_convert ⟨_, rfl⟩ ?_) | (with_reducible refine stop_convertB ⟨_, _, _, rfl⟩ ?_) | (with_reducible refine stop_eqSlice ⟨_, _, rfl⟩ ?_))
    go_ret
    rw [Hr.out]
    exact ⟨by simp [hi], hc2⟩
end Go.Proofs.Ytnioljagmimojaa

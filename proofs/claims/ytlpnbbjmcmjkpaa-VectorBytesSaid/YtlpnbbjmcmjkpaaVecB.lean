/- Walks of package vector: Min, Same, Gain, Set. -/
import Derived.Test.YtlpnbbjmcmjkpaaVecA
import Derived.Test.YtlpnbbjmcmjkpaaMor
set_option linter.unusedVariables false
set_option linter.unusedSimpArgs false
namespace Go.Proofs.Ytlpnbbjmcmjkpaa
open Go.RowKit Cb

theorem vmin1_any (x y : Int) (w : World) : Calls Try.prog 47 #[.int .i64 x, .int .i64 y] w fun e w' => e = .returned (.int .i64 (min x y)) ∧ Chg No w w' := by
  by_cases h : y < x
  · have H := Lib.hid (show min x y = y by omega)
    go_enter Try.func47, Try.ntmps47
    go_wp2_with (first | (with_reducible refine stop_append ?_) | (with_reducible refine stop_copy ?_) | (with_reducible refine stop_make ?_) | (with_reducible refine stop_lookup ?_) | (with_reducible refine stop_update ?_) | (with_reducible refine stop_slice ?_) | (with_reducible refine stop_range ?_) | (with_reducible refine stop_next ?_) | (with_reducible refine stop_convert ⟨_, rfl⟩ ?_) | (with_reducible refine stop_convertB ⟨_, _, _, rfl⟩ ?_) | (with_reducible refine stop_eqSlice ⟨_, _, rfl⟩ ?_))
    go_ret
    rw [H.out]; exact ⟨rfl, Chg.refl _ _⟩
  · have H := Lib.hid (show min x y = x by omega)
    go_enter Try.func47, Try.ntmps47
    go_wp2_with (first | (with_reducible refine stop_append ?_) | (with_reducible refine stop_copy ?_) | (with_reducible refine stop_make ?_) | (with_reducible refine stop_lookup ?_) | (with_reducible refine stop_update ?_) | (with_reducible refine stop_slice ?_) | (with_reducible refine stop_range ?_) | (with_reducible refine stop_next ?_) | (with_reducible refine stop_convert ⟨_, rfl⟩ ?_) | (with_reducible refine stop_convertB ⟨_, _, _, rfl⟩ ?_) | (with_reducible refine stop_eqSlice ⟨_, _, rfl⟩ ?_))
    go_ret
    rw [H.out]; exact ⟨rfl, Chg.refl _ _⟩
theorem vmin_any (F G : Nat → Prop) (v u : Value) (xs ys : List Int) (w : World) (hs : Sl F w v xs) (ht : Sl G w u ys) (hl : xs.length * 8 ≤ 140737488355328) (hl' : ys.length * 8 ≤ 140737488355328) :
    Calls Try.prog 18 #[v, u] w (PairPost (bothF min xs ys) w) := by
  have H := Lib.hid (both_any F G v u xs ys min 47 (fun args W => by kernel_rfl) w hs ht hl hl' (fun x y W _ _ _ => vmin1_any x y W))
  obtain ⟨A, c, rfl, hc, _⟩ := id hs
  obtain ⟨B, d, rfl, hd, _⟩ := id ht
  generalize bothF min xs ys = r at H ⊢
  clear hs ht
  go_enter Try.func18, Try.ntmps18
  go_wp2_with (first | (with_reducible refine stop_append ?_) | (with_reducible refine stop_copy ?_) | (with_reducible refine stop_make ?_) | (with_reducible refine stop_lookup ?_) | (with_reducible refine stop_update ?_) | (with_reducible refine stop_slice ?_) | (with_reducible refine stop_range ?_) | (with_reducible refine stop_next ?_) | (with_reducible refine stop_convert ⟨_, rfl⟩ ?_) | (with_reducible refine stop_convertB ⟨_, _, _, rfl⟩ ?_) | (with_reducible refine stop_eqSlice ⟨_, _, rfl⟩ ?_))
  refine H.out.mono ?_
  rintro e w1 ⟨hc1, ⟨z, rfl, v', rfl, hz⟩ | ⟨rfl, rfl⟩⟩
  · obtain ⟨A', c', rfl⟩ := hz.slice
    have Hz := Lib.hid hz
    clear hz
    go_wp2_with (first | (with_reducible refine stop_append ?_) | (with_reducible refine stop_copy ?_) | (with_reducible refine stop_make ?_) | (with_reducible refine stop_lookup ?_) | (with_reducible refine stop_update ?_) | (with_reducible refine stop_slice ?_) | (with_reducible refine stop_range ?_) | (with_reducible refine stop_next ?_) | (with_reducible refine stop_convert ⟨_, rfl⟩ ?_) | (with_reducible refine stop_convertB ⟨_, _, _, rfl⟩ ?_) | (with_reducible refine stop_eqSlice ⟨_, _, rfl⟩ ?_))
    go_ret2
    exact ⟨hc1, .inl ⟨_, rfl, _, rfl, Hz.out⟩⟩
  · go_wp2_with (first | (with_reducible refine stop_append ?_) | (with_reducible refine stop_copy ?_) | (with_reducible refine stop_make ?_) | (with_reducible refine stop_lookup ?_) | (with_reducible refine stop_update ?_) | (with_reducible refine stop_slice ?_) | (with_reducible refine stop_range ?_) | (with_reducible refine stop_next ?_) | (with_reducible refine stop_convert ⟨_, rfl⟩ ?_) | (with_reducible refine stop_convertB ⟨_, _, _, rfl⟩ ?_) | (with_reducible refine stop_eqSlice ⟨_, _, rfl⟩ ?_))
    go_ret2
    exact ⟨hc1, .inr ⟨rfl, rfl⟩⟩
def gainF (xs ys : List Int) : Option (List Int) := if coversB xs ys = true then some (List.zipWith (· - ·) xs ys) else none
theorem vgain1_any (x y : Int) (w : World) (h : 0 ≤ x ∧ x ≤ 1099511627776) (h' : 0 ≤ y ∧ y ≤ 1099511627776) : Calls Try.prog 48 #[.int .i64 x, .int .i64 y] w fun e w' => e = .returned (.int .i64 (x - y)) ∧ Chg No w w' := by
  have hw : IntKind.i64.wrap (x - y) = x - y := IntWalk.i64_in _ (by omega)
  go_enter Try.func48, Try.ntmps48
  go_wp2_with (first | (with_reducible refine stop_append ?_) | (with_reducible refine stop_copy ?_) | (with_reducible refine stop_make ?_) | (with_reducible refine stop_lookup ?_) | (with_reducible refine stop_update ?_) | (with_reducible refine stop_slice ?_) | (with_reducible refine stop_range ?_) | (with_reducible refine stop_next ?_) | (with_reducible refine stop_convert ⟨_, rfl⟩ ?_) | (with_reducible refine stop_convertB ⟨_, _, _, rfl⟩ ?_) | (with_reducible refine stop_eqSlice ⟨_, _, rfl⟩ ?_))
  go_ret
  exact ⟨rfl, Chg.refl _ _⟩
theorem vgain_any (F G : Nat → Prop) (v u : Value) (xs ys : List Int) (w : World) (hs : Sl F w v xs) (ht : Sl G w u ys) (hl : xs.length * 8 ≤ 140737488355328) (hl' : ys.length * 8 ≤ 140737488355328) :
    Calls Try.prog 21 #[v, u] w (PairPost (gainF xs ys) w) := by
  have Hc := Lib.hid (vcovers_any F G v u xs ys w hs ht hl hl')
  have H := Lib.hid (fun W (hW : Chg No w W) => both_any F G v u xs ys (· - ·) 48 (fun args W => by kernel_rfl) W (hs.keepNo hW) (ht.keepNo hW) hl hl' (fun x y W hx hy hk => by
    obtain ⟨⟨h1, h2⟩, _⟩ : (vright xs = true ∧ vright ys = true) ∧ xs.length = ys.length := by simpa [kindB] using hk
    exact vgain1_any x y W ((vright_iff.1 h1).2.2 x hx) ((vright_iff.1 h2).2.2 y hy)))
  obtain ⟨A, c, rfl, hc, _⟩ := id hs
  obtain ⟨B, d, rfl, hd, _⟩ := id ht
  clear hs ht
  cases hcv : coversB xs ys with
  | false =>
    have Hr := Lib.hid (show gainF xs ys = none by simp [gainF, hcv])
    rw [hcv] at Hc
    clear hcv
    go_enter Try.func21, Try.ntmps21
    go_wp2_with (first | (with_reducible refine stop_append ?_) | (with_reducible refine stop_copy ?_) | (with_reducible refine stop_make ?_) | (with_reducible refine stop_lookup ?_) | (with_reducible refine stop_update ?_) | (with_reducible refine stop_slice ?_) | (with_reducible refine stop_range ?_) | (with_reducible refine stop_next ?_) | (with_reducible refine stop_convert ⟨_, rfl⟩ ?_) | (with_reducible refine stop_convertB ⟨_, _, _, rfl⟩ ?_) | (with_reducible refine stop_eqSlice ⟨_, _, rfl⟩ ?_))
    refine Hc.out.mono ?_
    rintro e w1 ⟨rfl, hc1⟩
    go_wp2_with (first | (with_reducible refine stop_append ?_) | (with_reducible refine stop_copy ?_) | (with_reducible refine stop_make ?_) | (with_reducible refine stop_lookup ?_) | (with_reducible refine stop_update ?_) | (with_reducible refine stop_slice ?_) | (with_reducible refine stop_range ?_) | (with_reducible refine stop_next ?_) | (with_reducible refine stop_convert ⟨_, rfl⟩ ?_) | (with_reducible refine stop_convertB ⟨_, _, _, rfl⟩ ?_) | (with_reducible refine stop_eqSlice ⟨_, _, rfl⟩ ?_))
    go_ret2
    exact ⟨hc1, .inr ⟨Hr.out, rfl⟩⟩
  | true =>
    obtain ⟨h1, h2, h3⟩ := covers_iff.1 hcv
    have Hr := Lib.hid (show gainF xs ys = some (List.zipWith (· - ·) xs ys) by simp [gainF, hcv])
    have hb : bothF (· - ·) xs ys = some (List.zipWith (· - ·) xs ys) := by simp [bothF, kindB, h1, h2, h3.len]
    rw [hcv] at Hc
    rw [hb] at H
    clear hcv hb h1 h2 h3
    generalize List.zipWith (· - ·) xs ys = z at *
    go_enter Try.func21, Try.ntmps21
    go_wp2_with (first | (with_reducible refine stop_append ?_) | (with_reducible refine stop_copy ?_) | (with_reducible refine stop_make ?_) | (with_reducible refine stop_lookup ?_) | (with_reducible refine stop_update ?_) | (with_reducible refine stop_slice ?_) | (with_reducible refine stop_range ?_) | (with_reducible refine stop_next ?_) | (with_reducible refine stop_convert ⟨_, rfl⟩ ?_) | (with_reducible refine stop_convertB ⟨_, _, _, rfl⟩ ?_) | (with_reducible refine stop_eqSlice ⟨_, _, rfl⟩ ?_))
    refine Hc.out.mono ?_
    rintro e w1 ⟨rfl, hc1⟩
    go_wp2_with (first | (with_reducible refine stop_append ?_) | (with_reducible refine stop_copy ?_) | (with_reducible refine stop_make ?_) | (with_reducible refine stop_lookup ?_) | (with_reducible refine stop_update ?_) | (with_reducible refine stop_slice ?_) | (with_reducible refine stop_range ?_) | (with_reducible refine stop_next ?_) | (with_reducible refine stop_convert ⟨_, rfl⟩ ?_) | (with_reducible refine stop_convertB ⟨_, _, _, rfl⟩ ?_) | (with_reducible refine stop_eqSlice ⟨_, _, rfl⟩ ?_))
    refine (H.out _ hc1).mono ?_
    rintro e w2 ⟨hc2, ⟨z', hz', v', rfl, hz⟩ | ⟨h, _⟩⟩
    rotate_left
    · cases h
    obtain rfl : z = z' := by simpa using hz'
    obtain ⟨A', c', rfl⟩ := hz.slice
    have Hz := Lib.hid (hz.weak (G := Lt w.heap.size) (fun b _ h => by have := hc1.size; simp only [Lt] at *; omega))
    clear hz hz'
    go_wp2_with (first | (with_reducible refine stop_append ?_) | (with_reducible refine stop_copy ?_) | (with_reducible refine stop_make ?_) | (with_reducible refine stop_lookup ?_) | (with_reducible refine stop_update ?_) | (with_reducible refine stop_slice ?_) | (with_reducible refine stop_range ?_) | (with_reducible refine stop_next ?_) | (with_reducible refine stop_convert ⟨_, rfl⟩ ?_) | (with_reducible refine stop_convertB ⟨_, _, _, rfl⟩ ?_) | (with_reducible refine stop_eqSlice ⟨_, _, rfl⟩ ?_))
    go_ret2
    exact ⟨hc1.trans hc2, .inl ⟨_, Hr.out, _, rfl, Hz.out⟩⟩
def sameB (xs ys : List Int) : Bool := kindB xs ys && decide (xs = ys)
theorem vsame_any (F G : Nat → Prop) (v u : Value) (xs ys : List Int) (w : World) (hs : Sl F w v xs) (ht : Sl G w u ys) (hl : xs.length * 8 ≤ 140737488355328) (hl' : ys.length * 8 ≤ 140737488355328) :
    Calls Try.prog 19 #[v, u] w fun e w' => e = .returned (.bool (sameB xs ys)) ∧ Chg No w w' := by
  have Hk := Lib.hid (vkind_any F G v u xs ys w hs ht hl hl')
  have He := Lib.hid (fun W (hW : Chg No w W) (h8 : xs.length ≤ 1000000) => vequal_any F G v u xs ys W (hs.keepNo hW) (ht.keepNo hW) h8 (by omega))
  obtain ⟨A, c, rfl, hc, _⟩ := id hs
  obtain ⟨B, d, rfl, hd, _⟩ := id ht
  clear hs ht
  cases hk : kindB xs ys with
  | false =>
    have Hr := Lib.hid (show sameB xs ys = false by simp [sameB, hk])
    rw [hk] at Hk
    clear hk
    go_enter Try.func19, Try.ntmps19
    go_wp2_with (first | (with_reducible refine stop_append ?_) | (with_reducible refine stop_copy ?_) | (with_reducible refine stop_make ?_) | (with_reducible refine stop_lookup ?_) | (with_reducible refine stop_update ?_) | (with_reducible refine stop_slice ?_) | (with_reducible refine stop_range ?_) | (with_reducible refine stop_next ?_) | (with_reducible refine stop_convert ⟨_, rfl⟩ ?_) | (with_reducible refine stop_convertB ⟨_, _, _, rfl⟩ ?_) | (with_reducible refine stop_eqSlice ⟨_, _, rfl⟩ ?_))
    refine Hk.out.mono ?_
    rintro e w1 ⟨rfl, hc1⟩
    go_wp2_with (first | (with_reducible refine stop_append ?_) | (with_reducible refine stop_copy ?_) | (with_reducible refine stop_make ?_) | (with_reducible refine stop_lookup ?_) | (with_reducible refine stop_update ?_) | (with_reducible refine stop_slice ?_) | (with_reducible refine stop_range ?_) | (with_reducible refine stop_next ?_) | (with_reducible refine stop_convert ⟨_, rfl⟩ ?_) | (with_reducible refine stop_convertB ⟨_, _, _, rfl⟩ ?_) | (with_reducible refine stop_eqSlice ⟨_, _, rfl⟩ ?_))
    go_ret
    rw [Hr.out]; exact ⟨rfl, hc1⟩
  | true =>
    have Hr := Lib.hid (show sameB xs ys = decide (xs = ys) by simp [sameB, hk])
    obtain ⟨⟨h1, -⟩, -⟩ : (vright xs = true ∧ vright ys = true) ∧ xs.length = ys.length := by simpa [kindB] using hk
    have h8 := (vright_iff.1 h1).2.1
    rw [hk] at Hk
    clear hk h1
    go_enter Try.func19, Try.ntmps19
    go_wp2_with (first | (with_reducible refine stop_append ?_) | (with_reducible refine stop_copy ?_) | (with_reducible refine stop_make ?_) | (with_reducible refine stop_lookup ?_) | (with_reducible refine stop_update ?_) | (with_reducible refine stop_slice ?_) | (with_reducible refine stop_range ?_) | (with_reducible refine stop_next ?_) | (with_reducible refine stop_convert ⟨_, rfl⟩ ?_) | (with_reducible refine stop_convertB ⟨_, _, _, rfl⟩ ?_) | (with_reducible refine stop_eqSlice ⟨_, _, rfl⟩ ?_))
    refine Hk.out.mono ?_
    rintro e w1 ⟨rfl, hc1⟩
    go_wp2_with (first | (with_reducible refine stop_append ?_) | (with_reducible refine stop_copy ?_) | (with_reducible refine stop_make ?_) | (with_reducible refine stop_lookup ?_) | (with_reducible refine stop_update ?_) | (with_reducible refine stop_slice ?_) | (with_reducible refine stop_range ?_) | (with_reducible refine stop_next ?_) | (with_reducible refine stop_convert ⟨_, rfl⟩ ?_) | (with_reducible refine stop_convertB ⟨_, _, _, rfl⟩ ?_) | (with_reducible refine stop_eqSlice ⟨_, _, rfl⟩ ?_))
    refine (He.out _ hc1 (by omega)).mono ?_
    rintro e w2 ⟨rfl, hc2⟩
    go_wp2_with (first | (with_reducible refine stop_append ?_) | (with_reducible refine stop_copy ?_) | (with_reducible refine stop_make ?_) | (with_reducible refine stop_lookup ?_) | (with_reducible refine stop_update ?_) | (with_reducible refine stop_slice ?_) | (with_reducible refine stop_range ?_) | (with_reducible refine stop_next ?_) | (with_reducible refine stop_convert ⟨_, rfl⟩ ?_) | (with_reducible refine stop_convertB ⟨_, _, _, rfl⟩ ?_) | (with_reducible refine stop_eqSlice ⟨_, _, rfl⟩ ?_))
    go_ret
    rw [Hr.out]; exact ⟨rfl, hc1.trans hc2⟩
set_option maxRecDepth 100000 in
set_option maxHeartbeats 1000000 in
theorem vclone_own (F : Nat → Prop) (v : Value) (ws : List Int) (w : World) (h : Sl F w v ws) (hl : ws.length ≤ 1000000) :
    Calls Try.prog 50 #[v] w fun e w' => ∃ v', e = .returned v' ∧ Chg No w w' ∧ Cb.Own No w' w.heap.size 3 v' ws := by
  obtain ⟨A, c, rfl⟩ := h.slice
  have heq := fun n => veq_nil_run Try.underlying24 A n c
  cases A with
  | none =>
    have hnil : ws = [] := by
      obtain ⟨A', c', e, _, h | ⟨b, o, rfl, _⟩⟩ := h
      · exact h
      · cases e
    subst hnil
    go_enter Try.func50, Try.ntmps50
    go_wp2_with (first | (with_reducible refine stop_append ?_) | (with_reducible refine stop_copy ?_) | (with_reducible refine stop_make ?_) | (with_reducible refine stop_lookup ?_) | (with_reducible refine stop_update ?_) | (with_reducible refine stop_slice ?_) | (with_reducible refine stop_range ?_) | (with_reducible refine stop_next ?_) | (with_reducible refine stop_convert ⟨_, rfl⟩ ?_) | (with_reducible refine stop_convertB ⟨_, _, _, rfl⟩ ?_))
    go_ret
    exact ⟨_, rfl, Chg.refl _ _, Cb.Own.nil _ _ _ _⟩
  | some a =>
    have hc0 := (Chg.refl No w).alloc (.cells #[] 3)
    have h1 := h.keepNo hc0
    have own0 := Own.made0 (α := Int) No w 3
    go_enter Try.func50, Try.ntmps50
    go_wp2_with (first | (with_reducible refine stop_append ?_) | (with_reducible refine stop_copy ?_) | (with_reducible refine stop_make ?_) | (with_reducible refine stop_lookup ?_) | (with_reducible refine stop_update ?_) | (with_reducible refine stop_slice ?_) | (with_reducible refine stop_range ?_) | (with_reducible refine stop_next ?_) | (with_reducible refine stop_convert ⟨_, rfl⟩ ?_) | (with_reducible refine stop_convertB ⟨_, _, _, rfl⟩ ?_))
    generalize hw0 : w.alloc (.cells #[] 3) = w0 at *
    have hsz : w.heap.size ≤ w0.heap.size := hc0.size
    refine step_append_flat (α := Int) (ys := ws) Try.underlying24 vinfo_int rfl own0 rfl rfl h1 (by simp; omega) (by simp; omega) hsz ?_
    intro v1 w1 hown hg
    rw [List.nil_append] at hown
    have hc1 : Chg No w w1 := hc0.grew hg (fun k hk => by simp [Value.ownBlock] at hk; omega)
    have Hown := Lib.hid hown
    obtain ⟨A1, c1, rfl⟩ := hown.slice
    clear hown hg own0 h1
    go_wp2_with (first | (with_reducible refine stop_append ?_) | (with_reducible refine stop_copy ?_) | (with_reducible refine stop_make ?_) | (with_reducible refine stop_lookup ?_) | (with_reducible refine stop_update ?_) | (with_reducible refine stop_slice ?_) | (with_reducible refine stop_range ?_) | (with_reducible refine stop_next ?_) | (with_reducible refine stop_convert ⟨_, rfl⟩ ?_) | (with_reducible refine stop_convertB ⟨_, _, _, rfl⟩ ?_) | (with_reducible refine stop_eqSlice ⟨_, _, rfl⟩ ?_))
    go_ret
    exact ⟨_, rfl, hc1, Hown.out⟩
def setF (xs : List Int) (k n : Int) : Option (List Int) := if vright xs = true ∧ (0 ≤ k ∧ k < xs.length) ∧ mayB n = true then some (xs.set k.toNat (max (xs.getD k.toNat 0) n)) else none
set_option maxRecDepth 100000 in
set_option maxHeartbeats 1000000 in
theorem vset_any (F : Nat → Prop) (v : Value) (xs : List Int) (k n : Int) (w : World) (hs : Sl F w v xs) (hl : xs.length * 8 ≤ 140737488355328) :
    Calls Try.prog 22 #[v, .int .i64 k, .int .i64 n] w (PairPost (setF xs k n) w) := by
  have Hr := Lib.hid (vright_any F v xs w hs hl)
  have Hm := Lib.hid (vmay_any n)
  have Hs := Lib.hid (fun W (hW : Chg No w W) => hs.keepNo hW)
  obtain ⟨A, c, rfl, hc, _⟩ := id hs
  clear hs
  cases hr : vright xs with
  | false =>
    have HR := Lib.hid (show setF xs k n = none by simp [setF, hr])
    rw [hr] at Hr
    clear hr
    go_enter Try.func22, Try.ntmps22
    go_wp2_with (first | (with_reducible refine stop_append ?_) | (with_reducible refine stop_copy ?_) | (with_reducible refine stop_make ?_) | (with_reducible refine stop_lookup ?_) | (with_reducible refine stop_update ?_) | (with_reducible refine stop_slice ?_) | (with_reducible refine stop_range ?_) | (with_reducible refine stop_next ?_) | (with_reducible refine stop_convert ⟨_, rfl⟩ ?_) | (with_reducible refine stop_convertB ⟨_, _, _, rfl⟩ ?_) | (with_reducible refine stop_eqSlice ⟨_, _, rfl⟩ ?_))
    refine Hr.out.mono ?_
    rintro e w1 ⟨rfl, hc1⟩
    go_wp2_with (first | (with_reducible refine stop_append ?_) | (with_reducible refine stop_copy ?_) | (with_reducible refine stop_make ?_) | (with_reducible refine stop_lookup ?_) | (with_reducible refine stop_update ?_) | (with_reducible refine stop_slice ?_) | (with_reducible refine stop_range ?_) | (with_reducible refine stop_next ?_) | (with_reducible refine stop_convert ⟨_, rfl⟩ ?_) | (with_reducible refine stop_convertB ⟨_, _, _, rfl⟩ ?_) | (with_reducible refine stop_eqSlice ⟨_, _, rfl⟩ ?_))
    go_ret2
    exact ⟨hc1, .inr ⟨HR.out, rfl⟩⟩
  | true =>
    have h8 := (vright_iff.1 hr).2.1
    by_cases hk0 : k < 0
    · have HR := Lib.hid (show setF xs k n = none by unfold setF; rw [if_neg (by omega)])
      rw [hr] at Hr
      clear hr
      go_enter Try.func22, Try.ntmps22
      go_wp2_with (first | (with_reducible refine stop_append ?_) | (with_reducible refine stop_copy ?_) | (with_reducible refine stop_make ?_) | (with_reducible refine stop_lookup ?_) | (with_reducible refine stop_update ?_) | (with_reducible refine stop_slice ?_) | (with_reducible refine stop_range ?_) | (with_reducible refine stop_next ?_) | (with_reducible refine stop_convert ⟨_, rfl⟩ ?_) | (with_reducible refine stop_convertB ⟨_, _, _, rfl⟩ ?_) | (with_reducible refine stop_eqSlice ⟨_, _, rfl⟩ ?_))
      refine Hr.out.mono ?_
      rintro e w1 ⟨rfl, hc1⟩
      go_wp2_with (first | (with_reducible refine stop_append ?_) | (with_reducible refine stop_copy ?_) | (with_reducible refine stop_make ?_) | (with_reducible refine stop_lookup ?_) | (with_reducible refine stop_update ?_) | (with_reducible refine stop_slice ?_) | (with_reducible refine stop_range ?_) | (with_reducible refine stop_next ?_) | (with_reducible refine stop_convert ⟨_, rfl⟩ ?_) | (with_reducible refine stop_convertB ⟨_, _, _, rfl⟩ ?_) | (with_reducible refine stop_eqSlice ⟨_, _, rfl⟩ ?_))
      go_ret2
      exact ⟨hc1, .inr ⟨HR.out, rfl⟩⟩
    · by_cases hk1 : k < xs.length
      · obtain ⟨j, rfl⟩ : ∃ j : Nat, k = j := ⟨k.toNat, by omega⟩
        have hj : j < xs.length := by omega
        cases hm : mayB n with
        | false =>
          have HR := Lib.hid (show setF xs j n = none by simp [setF, hm])
          rw [hr] at Hr
          rw [hm] at Hm
          clear hr hm
          go_enter Try.func22, Try.ntmps22
          go_wp2_with (first | (with_reducible refine stop_append ?_) | (with_reducible refine stop_copy ?_) | (with_reducible refine stop_make ?_) | (with_reducible refine stop_lookup ?_) | (with_reducible refine stop_update ?_) | (with_reducible refine stop_slice ?_) | (with_reducible refine stop_range ?_) | (with_reducible refine stop_next ?_) | (with_reducible refine stop_convert ⟨_, rfl⟩ ?_) | (with_reducible refine stop_convertB ⟨_, _, _, rfl⟩ ?_) | (with_reducible refine stop_eqSlice ⟨_, _, rfl⟩ ?_))
          refine Hr.out.mono ?_
          rintro e w1 ⟨rfl, hc1⟩
          go_wp2_with (first | (with_reducible refine stop_append ?_) | (with_reducible refine stop_copy ?_) | (with_reducible refine stop_make ?_) | (with_reducible refine stop_lookup ?_) | (with_reducible refine stop_update ?_) | (with_reducible refine stop_slice ?_) | (with_reducible refine stop_range ?_) | (with_reducible refine stop_next ?_) | (with_reducible refine stop_convert ⟨_, rfl⟩ ?_) | (with_reducible refine stop_convertB ⟨_, _, _, rfl⟩ ?_) | (with_reducible refine stop_eqSlice ⟨_, _, rfl⟩ ?_))
          refine (Hm.out _).mono ?_
          rintro e w2 ⟨rfl, rfl⟩
          go_wp2_with (first | (with_reducible refine stop_append ?_) | (with_reducible refine stop_copy ?_) | (with_reducible refine stop_make ?_) | (with_reducible refine stop_lookup ?_) | (with_reducible refine stop_update ?_) | (with_reducible refine stop_slice ?_) | (with_reducible refine stop_range ?_) | (with_reducible refine stop_next ?_) | (with_reducible refine stop_convert ⟨_, rfl⟩ ?_) | (with_reducible refine stop_convertB ⟨_, _, _, rfl⟩ ?_) | (with_reducible refine stop_eqSlice ⟨_, _, rfl⟩ ?_))
          go_ret2
          exact ⟨hc1, .inr ⟨HR.out, rfl⟩⟩
        | true =>
          have HR := Lib.hid (show setF xs j n = some (xs.set j (max (xs.getD j 0) n)) by unfold setF; rw [if_pos ⟨hr, ⟨by omega, by omega⟩, hm⟩]; simp)
          rw [hr] at Hr
          rw [hm] at Hm
          clear hr hm
          go_enter Try.func22, Try.ntmps22
          go_wp2_with (first | (with_reducible refine stop_append ?_) | (with_reducible refine stop_copy ?_) | (with_reducible refine stop_make ?_) | (with_reducible refine stop_lookup ?_) | (with_reducible refine stop_update ?_) | (with_reducible refine stop_slice ?_) | (with_reducible refine stop_range ?_) | (with_reducible refine stop_next ?_) | (with_reducible refine stop_convert ⟨_, rfl⟩ ?_) | (with_reducible refine stop_convertB ⟨_, _, _, rfl⟩ ?_) | (with_reducible refine stop_eqSlice ⟨_, _, rfl⟩ ?_))
          refine Hr.out.mono ?_
          rintro e w1 ⟨rfl, hc1⟩
          go_wp2_with (first | (with_reducible refine stop_append ?_) | (with_reducible refine stop_copy ?_) | (with_reducible refine stop_make ?_) | (with_reducible refine stop_lookup ?_) | (with_reducible refine stop_update ?_) | (with_reducible refine stop_slice ?_) | (with_reducible refine stop_range ?_) | (with_reducible refine stop_next ?_) | (with_reducible refine stop_convert ⟨_, rfl⟩ ?_) | (with_reducible refine stop_convertB ⟨_, _, _, rfl⟩ ?_) | (with_reducible refine stop_eqSlice ⟨_, _, rfl⟩ ?_))
          refine (Hm.out _).mono ?_
          rintro e w2 ⟨rfl, rfl⟩
          go_wp2_with (first | (with_reducible refine stop_append ?_) | (with_reducible refine stop_copy ?_) | (with_reducible refine stop_make ?_) | (with_reducible refine stop_lookup ?_) | (with_reducible refine stop_update ?_) | (with_reducible refine stop_slice ?_) | (with_reducible refine stop_range ?_) | (with_reducible refine stop_next ?_) | (with_reducible refine stop_convert ⟨_, rfl⟩ ?_) | (with_reducible refine stop_convertB ⟨_, _, _, rfl⟩ ?_) | (with_reducible refine stop_eqSlice ⟨_, _, rfl⟩ ?_))
          refine (vclone_own F _ xs _ (Hs.out _ hc1) (by omega)).mono ?_
          rintro e w3 ⟨v3, rfl, hc3, hown⟩
          obtain ⟨A3, c3, rfl⟩ := hown.slice
          obtain ⟨g, rfl, hg1, hg2⟩ := hown.addr (by omega)
          have hget := hown.get1 j hj
          obtain ⟨hset, hfree⟩ := hown.set1 j hj (b := g) rfl (max xs[j] n)
          have hgd : xs.getD j 0 = xs[j] := by rw [List.getD_eq_getElem?_getD, List.getElem?_eq_getElem hj]; rfl
          rw [hgd] at HR
          have hfin := Lib.hid (hset.slFlat (G := Lt w.heap.size) (fun b hb h => by simp [Value.ownBlock] at hb; have := hc1.size; simp only [Lt] at h; omega))
          have hcw : Chg No w (w3.setCell ⟨g, j, none⟩ (.int .i64 (max xs[j] n))) := (hc1.trans hc3).old (chg_set _) (fun i hi => by simp only [At] at hi; have := hc1.size; omega)
          have hlen : (xs.set j (max xs[j] n)).length = xs.length := by simp
          clear hset hown hgd
          generalize xs[j] = y at *
          generalize xs.set j (max y n) = ys at *
          have hmx : (y < n ∧ max y n = n) ∨ (¬ y < n ∧ max y n = y) := by omega
          rcases hmx with ⟨hlt, e⟩ | ⟨hlt, e⟩
          · rw [e] at hfin hcw
            clear e
            go_wp2_with (first | (with_reducible refine stop_append ?_) | (with_reducible refine stop_copy ?_) | (with_reducible refine stop_make ?_) | (with_reducible refine stop_lookup ?_) | (with_reducible refine stop_update ?_) | (with_reducible refine stop_slice ?_) | (with_reducible refine stop_range ?_) | (with_reducible refine stop_next ?_) | (with_reducible refine stop_convert ⟨_, rfl⟩ ?_) | (with_reducible refine stop_convertB ⟨_, _, _, rfl⟩ ?_) | (with_reducible refine stop_eqSlice ⟨_, _, rfl⟩ ?_))
            go_ret2
            exact ⟨hcw, .inl ⟨_, HR.out, _, rfl, hfin.out⟩⟩
          · rw [e] at hfin hcw
            clear e
            go_wp2_with (first | (with_reducible refine stop_append ?_) | (with_reducible refine stop_copy ?_) | (with_reducible refine stop_make ?_) | (with_reducible refine stop_lookup ?_) | (with_reducible refine stop_update ?_) | (with_reducible refine stop_slice ?_) | (with_reducible refine stop_range ?_) | (with_reducible refine stop_next ?_) | (with_reducible refine stop_convert ⟨_, rfl⟩ ?_) | (with_reducible refine stop_convertB ⟨_, _, _, rfl⟩ ?_) | (with_reducible refine stop_eqSlice ⟨_, _, rfl⟩ ?_))
            go_ret2
            exact ⟨hcw, .inl ⟨_, HR.out, _, rfl, hfin.out⟩⟩
      · have HR := Lib.hid (show setF xs k n = none by unfold setF; rw [if_neg (by omega)])
        rw [hr] at Hr
        clear hr
        go_enter Try.func22, Try.ntmps22
        go_wp2_with (first | (with_reducible refine stop_append ?_) | (with_reducible refine stop_copy ?_) | (with_reducible refine stop_make ?_) | (with_reducible refine stop_lookup ?_) | (with_reducible refine stop_update ?_) | (with_reducible refine stop_slice ?_) | (with_reducible refine stop_range ?_) | (with_reducible refine stop_next ?_) | (with_reducible refine stop_convert ⟨_, rfl⟩ ?_) | (with_reducible refine stop_convertB ⟨_, _, _, rfl⟩ ?_) | (with_reducible refine stop_eqSlice ⟨_, _, rfl⟩ ?_))
        refine Hr.out.mono ?_
        rintro e w1 ⟨rfl, hc1⟩
        go_wp2_with (first | (with_reducible refine stop_append ?_) | (with_reducible refine stop_copy ?_) | (with_reducible refine stop_make ?_) | (with_reducible refine stop_lookup ?_) | (with_reducible refine stop_update ?_) | (with_reducible refine stop_slice ?_) | (with_reducible refine stop_range ?_) | (with_reducible refine stop_next ?_) | (with_reducible refine stop_convert ⟨_, rfl⟩ ?_) | (with_reducible refine stop_convertB ⟨_, _, _, rfl⟩ ?_) | (with_reducible refine stop_eqSlice ⟨_, _, rfl⟩ ?_))
        go_ret2
        exact ⟨hc1, .inr ⟨HR.out, rfl⟩⟩
end Go.Proofs.Ytlpnbbjmcmjkpaa

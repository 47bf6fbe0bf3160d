/- Texts Srt, VecQ. -/
import Derived.Test.YticimjplegbagaaMg9
import Derived.Sort.OwnSortedInts
/- A row of numbers of the call's own is sorted by the library. -/
set_option linter.unusedVariables false
namespace Go.Proofs.Yticimjplegbagaa
open Go.RowKit Cb Go.Sort Go.Proofs

def sortI (xs : List Int) : List Int := xs.mergeSort fun x y => decide (x ≤ y)
theorem sortI_len (xs : List Int) : (sortI xs).length = xs.length := List.length_mergeSort xs
theorem vsort_any {w : World} {base : Nat} {v : Value} {xs : List Int} (h : Cb.Own No w base 3 v xs) (hx : 0 < xs.length) (hl : xs.length ≤ 1000000) :
    Calls Try.prog 66 #[v] w fun e w' => e = .returned (.tuple #[]) ∧ Cb.Own No w' base 3 v (sortI xs) ∧ Chg (OB v) w w' := by
  obtain ⟨ds, hd, hc, ho1, ho2⟩ := h
  have hds : ds.flatten = xs.map (Value.int .i64) := by
    have : ds = xs.map fun x => [Value.int .i64 x] := by
      apply List.ext_getElem
      · simp [hd]
      · intro i h1 h2
        rw [List.getElem_map]
        exact hc i (by simpa using h2) h1
    rw [this, flatten_single]
  rw [hds] at ho1 ho2
  rcases ho2 with ⟨_, h0⟩ | ⟨g, cap, cur, rfl, hbg, hg, hnc, hm, hs, ht⟩
  · omega
  · have hH := holds_of_blockI (w := w) (g := g) (ss := xs) hg (by rw [show Rep.n Int = 1 from rfl, Nat.mul_one] at ht; exact ht)
    have hcall := AnyM.slices_Sort_int sortA g 0 cap xs w hH (lt_of_heap hg) (by omega)
    refine Calls.mono hcall ?_
    rintro e w' ⟨rfl, n, os, rfl⟩
    have hrow := ownsRow_sortedI (n := n) (os := os) (ts := sortI xs) (ss := xs) (sortI_len xs) hbg hg hnc hm hs
    have hgb := grownBy_sortedI (w := w) (g := g) (n := n) (os := os) (sortI xs).toArray
    refine ⟨rfl, ⟨(sortI xs).map fun x => [Value.int .i64 x], by simp, fun i hi hi' => by rw [List.getElem_map]; rfl, ?_⟩, ?_⟩
    · rw [flatten_single, sortI_len]
      exact hrow
    · exact (Chg.refl _ w).grown hgb (fun k e => by cases e; exact .inl rfl)
end Go.Proofs.Yticimjplegbagaa


/- Walks of package vector: Quorum, up to the range over a function. -/
set_option linter.unusedVariables false
set_option linter.unusedSimpArgs false
namespace Go.Proofs.Yticimjplegbagaa
open Go.RowKit Cb

theorem rows_get {F : Nat → Prop} {w : World} {A : Option Addr} {n c : Nat} {l : List (List Int)} (h : Sl F w (.slice A n c) l) (k : Nat) (hk : k < l.length) :
    ∃ b o v, A = some ⟨b, o, none⟩ ∧ ¬ F b ∧ b < w.heap.size ∧ w.cell? ⟨b, o + k, none⟩ = some v ∧ Sl F w v l[k] := by
  obtain ⟨b, o, d, rfl, hF, hb, ⟨v, rfl, hv⟩, ha⟩ := h.get k hk
  refine ⟨b, o, v, rfl, hF, hb, ?_, hv⟩
  have := ha 0 _ rfl
  simpa [show Rep.n (List Int) = 1 from rfl] using this
def idxL (p : List Int → Bool) (l : List (List Int)) : Int := match l.findIdx? p with | some i => i | none => -1
set_option maxRecDepth 100000 in
set_option maxHeartbeats 1000000 in
theorem indexL_any (F : Nat → Prop) (v : Value) (l : List (List Int)) (p : List Int → Bool) (g : FuncId) (c1 : Value) (hg : ∀ args W, (callFunc g args).run Try.prog W = .ok (.enter g args) W) (w : World) (hs : Sl F w v l) (hl : l.length ≤ 17592186044416)
    (hp : ∀ i (h : i < l.length) u W, Chg No w W → Sl F W u l[i] → Calls Try.prog g #[u, c1] W fun e w' => e = .returned (.bool (p l[i])) ∧ Chg No W w') :
    Calls Try.prog 72 #[v, .func (.func g) #[] #[c1]] w fun e w' => e = .returned (.int .i64 (idxL p l)) ∧ Chg No w w' := by
  obtain ⟨A, c, rfl⟩ := hs.slice
  have Hp := Lib.hid hp; have Hs := Lib.hid hs
  clear hp hs
  go_enter Try.func72, Try.ntmps72
  go_wp2_with (with_reducible first | refine stop_append ?_ | refine stop_copy ?_ | refine stop_make ?_ | refine stop_lookup ?_ | refine stop_update ?_ | refine stop_slice ?_ | refine stop_range ?_ | refine stop_next ?_ | refine stop_convert ⟨_, rfl⟩ ?_ | refine stop_convertB ⟨_, _, _, rfl⟩ ?_ | refine stop_eqSlice ⟨_, _, rfl⟩ ?_)
  go_loopw [8] (fun v8 wr => ∃ k : Nat, k ≤ l.length ∧ v8 = .int .i64 k ∧ Chg No w wr ∧ ∀ i (h : i < l.length), i < k → p l[i] = false) (fun v8 _ => l.length - (intOf v8).toNat)
  case atStart => exact ⟨0, by omega, rfl, Chg.refl _ _, fun _ _ h => absurd h (by omega)⟩
  case round =>
    obtain ⟨k, hk, rfl, hc1, hall⟩ := hrel
    have Hall := Lib.hid hall; clear hall
    by_cases hlt : k < l.length
    · obtain ⟨b, o, u, rfl, _, hbl, ha0, hu⟩ := rows_get (Hs.out.keepNo hc1) k hlt
      have Hcall := Lib.hid (Hp.out k hlt u wr hc1 hu)
      obtain ⟨Au, cu, rfl⟩ := hu.slice
      clear hu
      cases hpx : p l[k] with
      | true =>
        have Hi := Lib.hid (show idxL p l = k by
          simp only [idxL]
          rw [show l.findIdx? p = some k from List.findIdx?_eq_some_iff_getElem.2 ⟨hlt, hpx, fun j hj => by rw [Hall.out j (by omega) hj]; simp⟩])
        rw [hpx] at Hcall
        clear hpx
        generalize l[k] = x at *
        go_wp2_with (with_reducible first | refine stop_append ?_ | refine stop_copy ?_ | refine stop_make ?_ | refine stop_lookup ?_ | refine stop_update ?_ | refine stop_slice ?_ | refine stop_range ?_ | refine stop_next ?_ | refine stop_convert ⟨_, rfl⟩ ?_ | refine stop_convertB ⟨_, _, _, rfl⟩ ?_ | refine stop_eqSlice ⟨_, _, rfl⟩ ?_)
        refine Hcall.out.mono ?_
        rintro e w1 ⟨rfl, hc2⟩
        go_wp2_with (with_reducible first | refine stop_append ?_ | refine stop_copy ?_ | refine stop_make ?_ | refine stop_lookup ?_ | refine stop_update ?_ | refine stop_slice ?_ | refine stop_range ?_ | refine stop_next ?_ | refine stop_convert ⟨_, rfl⟩ ?_ | refine stop_convertB ⟨_, _, _, rfl⟩ ?_ | refine stop_eqSlice ⟨_, _, rfl⟩ ?_)
        go_ret
        rw [Hi.out]
        exact ⟨rfl, hc1.trans hc2⟩
      | false =>
        rw [hpx] at Hcall
        have Hpx := Lib.hid (show ∀ i (h : i < l.length), i < k + 1 → p l[i] = false from fun i h hi => by
          rcases Nat.lt_or_ge i k with h' | h'
          · exact Hall.out i h h'
          · obtain rfl : i = k := by omega
            exact hpx)
        clear hpx
        generalize l[k] = x at *
        go_wp2_with (with_reducible first | refine stop_append ?_ | refine stop_copy ?_ | refine stop_make ?_ | refine stop_lookup ?_ | refine stop_update ?_ | refine stop_slice ?_ | refine stop_range ?_ | refine stop_next ?_ | refine stop_convert ⟨_, rfl⟩ ?_ | refine stop_convertB ⟨_, _, _, rfl⟩ ?_ | refine stop_eqSlice ⟨_, _, rfl⟩ ?_)
        refine Hcall.out.mono ?_
        rintro e w1 ⟨rfl, hc2⟩
        go_wp2_with (with_reducible first | refine stop_append ?_ | refine stop_copy ?_ | refine stop_make ?_ | refine stop_lookup ?_ | refine stop_update ?_ | refine stop_slice ?_ | refine stop_range ?_ | refine stop_next ?_ | refine stop_convert ⟨_, rfl⟩ ?_ | refine stop_convertB ⟨_, _, _, rfl⟩ ?_ | refine stop_eqSlice ⟨_, _, rfl⟩ ?_)
        go_roundw
        case rel => exact ⟨k + 1, by omega, by go_num, hc1.trans hc2, Hpx.out⟩
        case measure => simp [intOf]; omega
    · have Hi := Lib.hid (show idxL p l = -1 by
        simp only [idxL]
        rw [List.findIdx?_eq_none_iff.2 (fun x hx => by
          obtain ⟨i, hi, rfl⟩ := List.mem_iff_getElem.1 hx
          exact Hall.out i hi (by omega))])
      go_wp2_with (with_reducible first | refine stop_append ?_ | refine stop_copy ?_ | refine stop_make ?_ | refine stop_lookup ?_ | refine stop_update ?_ | refine stop_slice ?_ | refine stop_range ?_ | refine stop_next ?_ | refine stop_convert ⟨_, rfl⟩ ?_ | refine stop_convertB ⟨_, _, _, rfl⟩ ?_ | refine stop_eqSlice ⟨_, _, rfl⟩ ?_)
      go_ret
      rw [Hi.out]
      exact ⟨rfl, hc1⟩
theorem containsL_any (F : Nat → Prop) (v : Value) (l : List (List Int)) (p : List Int → Bool) (g : FuncId) (c1 : Value) (hg : ∀ args W, (callFunc g args).run Try.prog W = .ok (.enter g args) W) (w : World) (hs : Sl F w v l) (hl : l.length ≤ 17592186044416)
    (hp : ∀ i (h : i < l.length) u W, Chg No w W → Sl F W u l[i] → Calls Try.prog g #[u, c1] W fun e w' => e = .returned (.bool (p l[i])) ∧ Chg No W w') :
    Calls Try.prog 54 #[v, .func (.func g) #[] #[c1]] w fun e w' => e = .returned (.bool (l.any p)) ∧ Chg No w w' := by
  have Hcall := Lib.hid (indexL_any F v l p g c1 hg w hs hl hp)
  clear hp hs
  have hr : (0 ≤ idxL p l ∧ l.any p = true) ∨ (idxL p l < 0 ∧ l.any p = false) := by
    simp only [idxL]
    cases h : l.findIdx? p with
    | some i =>
      left
      obtain ⟨hi, hpi, _⟩ := List.findIdx?_eq_some_iff_getElem.1 h
      exact ⟨by simp, List.any_eq_true.2 ⟨_, List.getElem_mem hi, hpi⟩⟩
    | none =>
      right
      exact ⟨by simp, by rw [List.any_eq_false]; intro x hx; rw [List.findIdx?_eq_none_iff.1 h x hx]; simp⟩
  generalize idxL p l = i at Hcall hr
  generalize l.any p = r at hr ⊢
  rcases hr with ⟨hi, hr⟩ | ⟨hi, hr⟩
  all_goals
    have Hr := Lib.hid hr; clear hr
    have hib := hi
    go_enter Try.func54, Try.ntmps54
    go_wp2_with (with_reducible first | refine stop_append ?_ | refine stop_copy ?_ | refine stop_make ?_ | refine stop_lookup ?_ | refine stop_update ?_ | refine stop_slice ?_ | refine stop_range ?_ | refine stop_next ?_ | refine stop_convert ⟨_, rfl⟩ ?_ | refine stop_convertB ⟨_, _, _, rfl⟩ ?_ | refine stop_eqSlice ⟨_, _, rfl⟩ ?_)
    refine Hcall.out.mono ?_
    rintro e w1 ⟨rfl, hc2⟩
    go_wp2_with (with_reducible first | refine stop_append ?_ | refine stop_copy ?_ | refine stop_make ?_ | refine stop_lookup ?_ | refine stop_update ?_ | refine stop_slice ?_ | refine stop_range ?_ | refine stop_next ?_ | refine stop_convert ⟨_, rfl⟩ ?_ | refine stop_convertB ⟨_, _, _, rfl⟩ ?_ | refine stop_eqSlice ⟨_, _, rfl⟩ ?_)
    go_ret
    rw [Hr.out]
    exact ⟨by simp [hi], hc2⟩
theorem quorum1_any (F : Nat → Prop) (q2 : Nat) (A : Option Addr) (c : Nat) (l : List (List Int)) (u : Value) (xs : List Int) (w : World) (h0 : 0 < l.length) (hq : w.cell? ⟨q2, 0, none⟩ = some (.slice A l.length c)) (hl : Sl F w (.slice A l.length c) l) (hu : Sl F w u xs)
    (hb : ∀ v ∈ l, v.length * 8 ≤ 140737488355328) (hx : xs.length * 8 ≤ 140737488355328) (hll : l.length ≤ 17592186044416) :
    Calls Try.prog 63 #[u, .pointer (some ⟨q2, 0, none⟩)] w fun e w' => e = .returned (.bool (!kindB xs l[0])) ∧ Chg No w w' := by
  obtain ⟨b, o, v0, rfl, _, hbl, ha0, hv0⟩ := rows_get hl 0 h0
  simp only [Nat.add_zero] at ha0
  have Hk := Lib.hid (vkind_any F F u v0 xs l[0] w hu hv0 hx (hb _ (List.getElem_mem h0)))
  obtain ⟨Au, cu, rfl⟩ := hu.slice
  obtain ⟨A0, c0, rfl⟩ := hv0.slice
  have hlen : (0 : Int) < l.length := by omega
  clear hl hu hv0
  generalize l[0] = x0 at *
  generalize kindB xs x0 = r at *
  go_enter Try.func63, Try.ntmps63
  go_wp2_with (with_reducible first | refine stop_append ?_ | refine stop_copy ?_ | refine stop_make ?_ | refine stop_lookup ?_ | refine stop_update ?_ | refine stop_slice ?_ | refine stop_range ?_ | refine stop_next ?_ | refine stop_convert ⟨_, rfl⟩ ?_ | refine stop_convertB ⟨_, _, _, rfl⟩ ?_ | refine stop_eqSlice ⟨_, _, rfl⟩ ?_)
  refine Hk.out.mono ?_
  rintro e w1 ⟨rfl, hc⟩
  go_wp2_with (with_reducible first | refine stop_append ?_ | refine stop_copy ?_ | refine stop_make ?_ | refine stop_lookup ?_ | refine stop_update ?_ | refine stop_slice ?_ | refine stop_range ?_ | refine stop_next ?_ | refine stop_convert ⟨_, rfl⟩ ?_ | refine stop_convertB ⟨_, _, _, rfl⟩ ?_ | refine stop_eqSlice ⟨_, _, rfl⟩ ?_)
  go_ret
  exact ⟨rfl, hc⟩
theorem shard_any (A : Option Addr) (n c : Nat) (k : Int) (w : World) : Calls Try.prog 65 #[.slice A n c, .int .i64 k] w fun e w' =>
    e = .returned (.func (.func 80) #[] #[.pointer (some ⟨w.heap.size, 0, none⟩), .pointer (some ⟨w.heap.size + 1, 0, none⟩)]) ∧ w' = (w.alloc (.cells #[.slice A n c] 23)).alloc (.cells #[.int .i64 k] 3) := by
  go_enter Try.func65, Try.ntmps65
  go_wp2_with (with_reducible first | refine stop_append ?_ | refine stop_copy ?_ | refine stop_make ?_ | refine stop_lookup ?_ | refine stop_update ?_ | refine stop_slice ?_ | refine stop_range ?_ | refine stop_next ?_ | refine stop_convert ⟨_, rfl⟩ ?_ | refine stop_convertB ⟨_, _, _, rfl⟩ ?_ | refine stop_eqSlice ⟨_, _, rfl⟩ ?_)
  go_ret
  exact ⟨rfl, rfl⟩
end Go.Proofs.Yticimjplegbagaa


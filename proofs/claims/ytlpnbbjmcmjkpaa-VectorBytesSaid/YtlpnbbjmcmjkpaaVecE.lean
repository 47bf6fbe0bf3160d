/- Walks of package vector: Encode. -/
import Derived.Test.YtlpnbbjmcmjkpaaVecA
import Derived.Test.YtlpnbbjmcmjkpaaPackW
set_option linter.unusedVariables false
set_option linter.unusedSimpArgs false
namespace Go.Proofs.Ytlpnbbjmcmjkpaa
open Go.RowKit Cb

def encV (xs : List Int) : List UInt8 := encs [(xs.length : Int)] ++ encs xs
def encF (xs : List Int) : List UInt8 × Int := if vright xs = true then (encV xs, 0) else ([], 30)
theorem encV_len {xs : List Int} (h : vright xs = true) : (encV xs).length ≤ 90 := by
  obtain ⟨h1, h8, hx⟩ := vright_iff.1 h
  have e1 := encs_len [(xs.length : Int)] (by simp; omega)
  have e2 := encs_len xs (fun n hn => by have := hx n hn; omega)
  simp only [encV, List.length_append, List.length_singleton] at *
  omega
set_option maxRecDepth 100000 in
set_option maxHeartbeats 1000000 in
theorem vencode_any (F : Nat → Prop) (v : Value) (xs : List Int) (w : World) (hs : Sl F w v xs) (hl : xs.length * 8 ≤ 140737488355328) :
    Calls Try.prog 33 #[v] w fun e w' => ∃ v', e = .returned (.tuple #[v', .int .i64 (encF xs).2]) ∧ Sl (Lt w.heap.size) w' v' (encF xs).1 ∧ Chg No w w' := by
  have Hr := Lib.hid (vright_any F v xs w hs hl)
  have Hs := Lib.hid (fun W (hW : Chg No w W) => hs.keepNo hW)
  obtain ⟨A, c, rfl⟩ := hs.slice
  clear hs
  cases hr : vright xs with
  | false =>
    rw [hr] at Hr
    have He := Lib.hid (show encF xs = ([], 30) by simp [encF, hr])
    clear hr
    go_enter Try.func33, Try.ntmps33
    go_wp2_with (first | (with_reducible refine stop_append ?_) | (with_reducible refine stop_copy ?_) | (with_reducible refine stop_make ?_) | (with_reducible refine stop_lookup ?_) | (with_reducible refine stop_update ?_) | (with_reducible refine stop_slice ?_) | (with_reducible refine stop_range ?_) | (with_reducible refine stop_next ?_) | (with_reducible refine stop_convert ⟨_, rfl⟩ ?_) | (with_reducible refine stop_convertB ⟨_, _, _, rfl⟩ ?_) | (with_reducible refine stop_eqSlice ⟨_, _, rfl⟩ ?_))
    refine Hr.out.mono ?_
    rintro e w1 ⟨rfl, hc1⟩
    go_wp2_with (first | (with_reducible refine stop_append ?_) | (with_reducible refine stop_copy ?_) | (with_reducible refine stop_make ?_) | (with_reducible refine stop_lookup ?_) | (with_reducible refine stop_update ?_) | (with_reducible refine stop_slice ?_) | (with_reducible refine stop_range ?_) | (with_reducible refine stop_next ?_) | (with_reducible refine stop_convert ⟨_, rfl⟩ ?_) | (with_reducible refine stop_convertB ⟨_, _, _, rfl⟩ ?_) | (with_reducible refine stop_eqSlice ⟨_, _, rfl⟩ ?_))
    go_ret2
    exact ⟨_, by rw [He.out]; rfl, by rw [He.out]; exact Sl.nil _ _ _ _, hc1⟩
  | true =>
    rw [hr] at Hr
    obtain ⟨h1, h8, hx⟩ := vright_iff.1 hr
    have He := Lib.hid (show encF xs = (encV xs, 0) by simp [encF, hr])
    have Hx := Lib.hid hx
    clear hr hx
    go_enter Try.func33, Try.ntmps33
    go_wp2_with (first | (with_reducible refine stop_append ?_) | (with_reducible refine stop_copy ?_) | (with_reducible refine stop_make ?_) | (with_reducible refine stop_lookup ?_) | (with_reducible refine stop_update ?_) | (with_reducible refine stop_slice ?_) | (with_reducible refine stop_range ?_) | (with_reducible refine stop_next ?_) | (with_reducible refine stop_convert ⟨_, rfl⟩ ?_) | (with_reducible refine stop_convertB ⟨_, _, _, rfl⟩ ?_) | (with_reducible refine stop_eqSlice ⟨_, _, rfl⟩ ?_))
    refine Hr.out.mono ?_
    rintro e w1 ⟨rfl, hc1⟩
    have hca := (Chg.refl No w1).alloc (.cells #[.int .i64 xs.length] 3)
    have hnum := num_any No w1.heap.size [] (.slice none 0 0) _ [(xs.length : Int)] _ (Sl.lit1 (w := w1) (T := 3) (F := OB (.slice none 0 0)) (y := (xs.length : Int)) rfl rfl (fun h => by simp [OB, Value.ownBlock] at h)) (by simp; omega) (Own.nil _ _ _ _) (by simp) (by simp)
    have Hnum := Lib.hid hnum
    clear hnum
    go_wp2_with (first | (with_reducible refine stop_append ?_) | (with_reducible refine stop_copy ?_) | (with_reducible refine stop_make ?_) | (with_reducible refine stop_lookup ?_) | (with_reducible refine stop_update ?_) | (with_reducible refine stop_slice ?_) | (with_reducible refine stop_range ?_) | (with_reducible refine stop_next ?_) | (with_reducible refine stop_convert ⟨_, rfl⟩ ?_) | (with_reducible refine stop_convertB ⟨_, _, _, rfl⟩ ?_) | (with_reducible refine stop_eqSlice ⟨_, _, rfl⟩ ?_))
    refine Hnum.out.mono ?_
    rintro e w2 ⟨v2, rfl, hown2, hg2⟩
    have hc2 : Chg No w w2 := (hc1.trans hca).grew hg2 (fun k hk => by simp [Value.ownBlock] at hk)
    have hl2 : (encs [(xs.length : Int)]).length ≤ 9 := by
      have := encs_len [(xs.length : Int)] (by simp; omega)
      simpa using this
    have hsl2 := Lib.hid ((Hs.out w1 hc1).weak (G := fun b => w1.heap.size ≤ b) (fun b hb h => by omega))
    have hown2' : Own No w2 w1.heap.size 5 v2 (encs [(xs.length : Int)]) := by simpa using hown2
    have Hown2 := Lib.hid hown2'
    obtain ⟨A2, c2, rfl⟩ := hown2'.slice
    have hcc2 : Chg No w1 w2 := hca.grew hg2 (fun k hk => by simp [Value.ownBlock] at hk)
    have hnum := num_any No w1.heap.size (encs [(xs.length : Int)]) _ (.slice A xs.length c) xs w2 ((hsl2.out.keepNo hcc2).weak (fun b hb h => (Hown2.out.lt b h).1)) (fun n hn => by have := Hx.out n hn; omega) Hown2.out hcc2.size (by omega)
    have Hnum2 := Lib.hid hnum
    clear hnum hown2 hown2' hg2
    go_wp2_with (first | (with_reducible refine stop_append ?_) | (with_reducible refine stop_copy ?_) | (with_reducible refine stop_make ?_) | (with_reducible refine stop_lookup ?_) | (with_reducible refine stop_update ?_) | (with_reducible refine stop_slice ?_) | (with_reducible refine stop_range ?_) | (with_reducible refine stop_next ?_) | (with_reducible refine stop_convert ⟨_, rfl⟩ ?_) | (with_reducible refine stop_convertB ⟨_, _, _, rfl⟩ ?_) | (with_reducible refine stop_eqSlice ⟨_, _, rfl⟩ ?_))
    refine Hnum2.out.mono ?_
    rintro e w3 ⟨v3, rfl, hown3, hg3⟩
    have hc3 : Chg No w w3 := hc2.grew hg3 (fun k hk => .inr (by have := (Hown2.out.lt k hk).1; have := hc1.size; omega))
    obtain ⟨A3, c3, e3⟩ := hown3.slice
    rw [List.length_append] at e3
    subst e3
    have Hown3 := Lib.hid hown3
    clear hown3 hg3
    go_wp2_with (first | (with_reducible refine stop_append ?_) | (with_reducible refine stop_copy ?_) | (with_reducible refine stop_make ?_) | (with_reducible refine stop_lookup ?_) | (with_reducible refine stop_update ?_) | (with_reducible refine stop_slice ?_) | (with_reducible refine stop_range ?_) | (with_reducible refine stop_next ?_) | (with_reducible refine stop_convert ⟨_, rfl⟩ ?_) | (with_reducible refine stop_convertB ⟨_, _, _, rfl⟩ ?_) | (with_reducible refine stop_eqSlice ⟨_, _, rfl⟩ ?_))
    go_ret2
    exact ⟨_, by rw [He.out]; rfl, by rw [He.out]; exact Hown3.out.slFlat (G := Lt w.heap.size) (fun k hk h => by have := (Hown3.out.lt k hk).1; have := hc1.size; simp only [Lt] at h; omega), hc3⟩
end Go.Proofs.Ytlpnbbjmcmjkpaa

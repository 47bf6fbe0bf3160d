/- Walks of package pack: texts, the end, a new reader. -/
import Derived.Test.YtnioljagmimojaaPackR
namespace Go.Proofs.Ytnioljagmimojaa
open Go.RowKit Cb

def textR (limit : Int) (bs : List UInt8) (e : Int) : List UInt8 × List UInt8 × Int :=
  takeR (numR limit bs e).1.toNat (numR limit bs e).2.1 (numR limit bs e).2.2
theorem numGo_nonneg (limit : Int) (bs : List UInt8) : ∀ k n, 0 ≤ (numGo limit k n bs).1 := by
  induction bs with
  | nil => intro k n; simp [numGo]
  | cons x bs ih => intro k n; unfold numGo; split; simp; split; split; simp; exact Int.natCast_nonneg _; exact ih _ _
theorem numR_nonneg (limit : Int) (bs : List UInt8) (e : Int) : 0 ≤ (numR limit bs e).1 := by
  unfold numR; split; exact numGo_nonneg _ _ _ _; simp
set_option maxRecDepth 100000 in
set_option maxHeartbeats 1000000 in
theorem rtext_all (p : Nat) (bs : List UInt8) (e : Int) (limit : Int) (w : World) (h : Rdr w p bs e) (hl0 : 0 ≤ limit) (hl : limit ≤ 4611686018427387904) :
    Calls Try.prog 41 #[.pointer (some ⟨p, 0, none⟩), .int .i64 limit] w fun e' w' => e' = .returned (.string ⟨(textR limit bs e).1.toArray⟩) ∧ Rdr w' p (textR limit bs e).2.1 (textR limit bs e).2.2 ∧ Chg (At p) w w' := by
  have hn := numR_nonneg limit bs e
  have hcall := rnum_all p bs e limit w h hl0 hl
  obtain ⟨n, bs1, e1, hnr⟩ : ∃ n bs1 e1, numR limit bs e = (n, bs1, e1) := ⟨_, _, _, rfl⟩
  have hres : textR limit bs e = takeR n.toNat bs1 e1 := by simp [textR, hnr]
  rw [hnr] at hn hcall
  simp only at hn hcall
  obtain ⟨n, rfl⟩ := Int.eq_ofNat_of_zero_le hn
  rw [Int.toNat_natCast] at hres
  have Hres := Lib.hid hres; have Hcall := Lib.hid hcall
  clear hn hres hcall hnr
  go_enter Try.func41, Try.ntmps41
  go_wp2_with (first | (with_reducible refine stop_append ?_) | (with_reducible refine stop_copy ?_) | (with_reducible refine stop_make ?_) | (with_reducible refine stop_lookup ?_) | (with_reducible refine stop_update ?_) | (with_reducible refine stop_slice ?_) | (with_reducible refine stop_range ?_) | (with_reducible refine stop_next ?_) | (with_reducible refine stop_convert ⟨_, rfl⟩ ?_) | (with_reducible refine stop_convertB ⟨_, _, _, rfl⟩ ?_) | (with_reducible refine stop_eqSlice ⟨_, _, rfl⟩ ?_))
  refine Hcall.out.mono ?_
  rintro e' w1 ⟨rfl, hr1, hc1⟩
  by_cases hc : e1 = 0 ∧ n ≤ bs1.length
  · obtain ⟨rfl, hc⟩ := hc
    have ht : takeR n bs1 0 = (bs1.take n, bs1.drop n, 0) := by simp [takeR, hc]
    have Ht := Lib.hid ht; clear ht
    go_wp2_with (first | (with_reducible refine stop_append ?_) | (with_reducible refine stop_copy ?_) | (with_reducible refine stop_make ?_) | (with_reducible refine stop_lookup ?_) | (with_reducible refine stop_update ?_) | (with_reducible refine stop_slice ?_) | (with_reducible refine stop_range ?_) | (with_reducible refine stop_next ?_) | (with_reducible refine stop_convert ⟨_, rfl⟩ ?_) | (with_reducible refine stop_convertB ⟨_, _, _, rfl⟩ ?_) | (with_reducible refine stop_eqSlice ⟨_, _, rfl⟩ ?_))
    refine (take_yes p bs1 n _ hr1 hc).mono ?_
    rintro e' w2 ⟨A, c, rfl, hs, hr2, hc2⟩
    go_wp2_with (first | (with_reducible refine stop_append ?_) | (with_reducible refine stop_copy ?_) | (with_reducible refine stop_make ?_) | (with_reducible refine stop_lookup ?_) | (with_reducible refine stop_update ?_) | (with_reducible refine stop_slice ?_) | (with_reducible refine stop_range ?_) | (with_reducible refine stop_next ?_) | (with_reducible refine stop_convert ⟨_, rfl⟩ ?_) | (with_reducible refine stop_convertB ⟨_, _, _, rfl⟩ ?_) | (with_reducible refine stop_eqSlice ⟨_, _, rfl⟩ ?_))
    refine step_conv_bs Try.underlying78 Try.underlying5 Try.underlying9 rfl hs ?_
    go_wp2_with (first | (with_reducible refine stop_append ?_) | (with_reducible refine stop_copy ?_) | (with_reducible refine stop_make ?_) | (with_reducible refine stop_lookup ?_) | (with_reducible refine stop_update ?_) | (with_reducible refine stop_slice ?_) | (with_reducible refine stop_range ?_) | (with_reducible refine stop_next ?_) | (with_reducible refine stop_convert ⟨_, rfl⟩ ?_) | (with_reducible refine stop_convertB ⟨_, _, _, rfl⟩ ?_) | (with_reducible refine stop_eqSlice ⟨_, _, rfl⟩ ?_))
    go_ret
    rw [Hres.out, Ht.out]
    exact ⟨rfl, hr2, hc1.trans hc2⟩
  · have ht : takeR n bs1 e1 = ([], bs1, failR 20 e1) := by simp only [takeR]; rw [if_neg hc]
    have Ht := Lib.hid ht; clear ht
    have hn : e1 ≠ 0 ∨ bs1.length < n := by omega
    clear hc
    go_wp2_with (first | (with_reducible refine stop_append ?_) | (with_reducible refine stop_copy ?_) | (with_reducible refine stop_make ?_) | (with_reducible refine stop_lookup ?_) | (with_reducible refine stop_update ?_) | (with_reducible refine stop_slice ?_) | (with_reducible refine stop_range ?_) | (with_reducible refine stop_next ?_) | (with_reducible refine stop_convert ⟨_, rfl⟩ ?_) | (with_reducible refine stop_convertB ⟨_, _, _, rfl⟩ ?_) | (with_reducible refine stop_eqSlice ⟨_, _, rfl⟩ ?_))
    refine (take_no p bs1 e1 n _ hr1 hn).mono ?_
    rintro e' w2 ⟨rfl, hr2, hc2⟩
    go_wp2_with (first | (with_reducible refine stop_append ?_) | (with_reducible refine stop_copy ?_) | (with_reducible refine stop_make ?_) | (with_reducible refine stop_lookup ?_) | (with_reducible refine stop_update ?_) | (with_reducible refine stop_slice ?_) | (with_reducible refine stop_range ?_) | (with_reducible refine stop_next ?_) | (with_reducible refine stop_convert ⟨_, rfl⟩ ?_) | (with_reducible refine stop_convertB ⟨_, _, _, rfl⟩ ?_) | (with_reducible refine stop_eqSlice ⟨_, _, rfl⟩ ?_))
    refine step_conv_bs (F := No) (bs := []) Try.underlying78 Try.underlying5 Try.underlying9 rfl (Sl.nil _ _ _ _) ?_
    go_wp2_with (first | (with_reducible refine stop_append ?_) | (with_reducible refine stop_copy ?_) | (with_reducible refine stop_make ?_) | (with_reducible refine stop_lookup ?_) | (with_reducible refine stop_update ?_) | (with_reducible refine stop_slice ?_) | (with_reducible refine stop_range ?_) | (with_reducible refine stop_next ?_) | (with_reducible refine stop_convert ⟨_, rfl⟩ ?_) | (with_reducible refine stop_convertB ⟨_, _, _, rfl⟩ ?_) | (with_reducible refine stop_eqSlice ⟨_, _, rfl⟩ ?_))
    go_ret
    rw [Hres.out, Ht.out]
    exact ⟨rfl, hr2, hc1.trans hc2⟩
def endR (bs : List UInt8) (e : Int) : Int := if e = 0 ∧ bs ≠ [] then 22 else e
theorem end_any (p : Nat) (bs : List UInt8) (e : Int) (w : World) (h : Rdr w p bs e) :
    Calls Try.prog 42 #[.pointer (some ⟨p, 0, none⟩)] w fun e' w' => e' = .returned (.int .i64 (endR bs e)) ∧ w = w' := by
  obtain ⟨A, c, hs, ho⟩ := h
  have h0 := cell_obj (i := 0) ho rfl
  have h1 := cell_obj (i := 1) ho rfl
  clear ho hs
  by_cases he : e = 0
  · subst he
    by_cases hb : 0 < bs.length
    · have hb' : bs ≠ [] := by intro f; subst f; simp at hb
      have Hf := Lib.hid (show endR bs 0 = 22 by simp [endR, hb'])
      go_enter Try.func42, Try.ntmps42
      go_wp2_with (first | (with_reducible refine stop_append ?_) | (with_reducible refine stop_copy ?_) | (with_reducible refine stop_make ?_) | (with_reducible refine stop_lookup ?_) | (with_reducible refine stop_update ?_) | (with_reducible refine stop_slice ?_) | (with_reducible refine stop_range ?_) | (with_reducible refine stop_next ?_) | (with_reducible refine stop_convert ⟨_, rfl⟩ ?_) | (with_reducible refine stop_convertB ⟨_, _, _, rfl⟩ ?_) | (with_reducible refine stop_eqSlice ⟨_, _, rfl⟩ ?_))
      go_ret
      rw [Hf.out]; exact ⟨rfl, rfl⟩
    · have hb' : bs = [] := List.eq_nil_of_length_eq_zero (by omega)
      have Hf := Lib.hid (show endR bs 0 = 0 by simp [endR, hb'])
      clear hb'
      go_enter Try.func42, Try.ntmps42
      go_wp2_with (first | (with_reducible refine stop_append ?_) | (with_reducible refine stop_copy ?_) | (with_reducible refine stop_make ?_) | (with_reducible refine stop_lookup ?_) | (with_reducible refine stop_update ?_) | (with_reducible refine stop_slice ?_) | (with_reducible refine stop_range ?_) | (with_reducible refine stop_next ?_) | (with_reducible refine stop_convert ⟨_, rfl⟩ ?_) | (with_reducible refine stop_convertB ⟨_, _, _, rfl⟩ ?_) | (with_reducible refine stop_eqSlice ⟨_, _, rfl⟩ ?_))
      go_ret
      rw [Hf.out]; exact ⟨rfl, rfl⟩
  · have Hf := Lib.hid (show endR bs e = e by simp [endR, he])
    have he' : (e == 0) = false := by simpa using he
    have he2 : (e != 0) = true := by simpa using he
    clear he
    go_enter Try.func42, Try.ntmps42
    go_wp2_with (first | (with_reducible refine stop_append ?_) | (with_reducible refine stop_copy ?_) | (with_reducible refine stop_make ?_) | (with_reducible refine stop_lookup ?_) | (with_reducible refine stop_update ?_) | (with_reducible refine stop_slice ?_) | (with_reducible refine stop_range ?_) | (with_reducible refine stop_next ?_) | (with_reducible refine stop_convert ⟨_, rfl⟩ ?_) | (with_reducible refine stop_convertB ⟨_, _, _, rfl⟩ ?_) | (with_reducible refine stop_eqSlice ⟨_, _, rfl⟩ ?_))
    go_ret
    rw [Hf.out]; exact ⟨rfl, rfl⟩
set_option maxRecDepth 100000 in
set_option maxHeartbeats 1000000 in
theorem newreader_any (F : Nat → Prop) (v : Value) (bs : List UInt8) (w : World) (hs : Sl F w v bs) (hl : bs.length ≤ 100000000000000) :
    Calls Try.prog 39 #[v] w fun e' w' => ∃ p, e' = .returned (.pointer (some ⟨p, 0, none⟩)) ∧ Rdr w' p bs 0 ∧ Chg No w w' ∧ w.heap.size ≤ p := by
  obtain ⟨A, c, rfl, _⟩ := id hs
  go_enter Try.func39, Try.ntmps39
  go_wp2_with (first | (with_reducible refine stop_append ?_) | (with_reducible refine stop_copy ?_) | (with_reducible refine stop_make ?_) | (with_reducible refine stop_lookup ?_) | (with_reducible refine stop_update ?_) | (with_reducible refine stop_slice ?_) | (with_reducible refine stop_range ?_) | (with_reducible refine stop_next ?_) | (with_reducible refine stop_convert ⟨_, rfl⟩ ?_) | (with_reducible refine stop_convertB ⟨_, _, _, rfl⟩ ?_) | (with_reducible refine stop_eqSlice ⟨_, _, rfl⟩ ?_))
  refine step_make No w.heap.size (0 : UInt8) Try.underlying78 info_u8 rfl (by decide) (n := bs.length) rfl rfl (by omega) (by omega) (Nat.le_refl _) ?_
  intro v1 w1 ho1 hb1 hc1
  go_wp2_with (first | (with_reducible refine stop_append ?_) | (with_reducible refine stop_copy ?_) | (with_reducible refine stop_make ?_) | (with_reducible refine stop_lookup ?_) | (with_reducible refine stop_update ?_) | (with_reducible refine stop_slice ?_) | (with_reducible refine stop_range ?_) | (with_reducible refine stop_next ?_) | (with_reducible refine stop_convert ⟨_, rfl⟩ ?_) | (with_reducible refine stop_convertB ⟨_, _, _, rfl⟩ ?_) | (with_reducible refine stop_eqSlice ⟨_, _, rfl⟩ ?_))
  refine step_copy Try.underlying78 Try.underlying78 info_u8 ho1 rfl rfl (hs.keepNo hc1) (by simp) ?_
  intro w2 ho2 hc2
  have hs2 : Sl (Ge w2.heap.size) w2 v1 bs := (ho2.sl (fun _ _ f => f)).weak (fun b hb f => by simp [Ge] at f; omega)
  obtain ⟨A1, n1, rfl⟩ : ∃ A1 n1, v1 = .slice A1 bs.length n1 := by obtain ⟨A1, n1, e, _⟩ := hs2; exact ⟨_, _, e⟩
  have Hb := Lib.hid hb1; clear hb1
  go_wp2_with (first | (with_reducible refine stop_append ?_) | (with_reducible refine stop_copy ?_) | (with_reducible refine stop_make ?_) | (with_reducible refine stop_lookup ?_) | (with_reducible refine stop_update ?_) | (with_reducible refine stop_slice ?_) | (with_reducible refine stop_range ?_) | (with_reducible refine stop_next ?_) | (with_reducible refine stop_convert ⟨_, rfl⟩ ?_) | (with_reducible refine stop_convertB ⟨_, _, _, rfl⟩ ?_) | (with_reducible refine stop_eqSlice ⟨_, _, rfl⟩ ?_))
  go_ret
  refine ⟨_, rfl, ⟨A1, n1, hs2.keepNo ((Chg.refl _ _).alloc _), alloc_obj _ _⟩, ((hc1.trans' hc2 (fun _ _ f => f) (fun i hi f => ?_)).alloc _), ?_⟩
  · have := Hb.out; simp only [OB] at f; rw [this] at f; simp at f; omega
  · have := hc1.size; have := hc2.size; omega
end Go.Proofs.Ytnioljagmimojaa

/- Walks of package pack: texts, the end, a new reader. -/
import Derived.Test.YtlpnbbjmcmjkpaaPackR
namespace Go.Proofs.Ytlpnbbjmcmjkpaa
open Go.RowKit Cb

def textR (limit : Int) (bs : List UInt8) (e : Int) : List UInt8 × List UInt8 × Int :=
  takeR (numR limit bs e).1.toNat (numR limit bs e).2.1 (numR limit bs e).2.2
theorem numGo_nonneg (limit : Int) (bs : List UInt8) : ∀ k n, 0 ≤ (numGo limit k n bs).1 := by
  induction bs with
  | nil => intro k n; simp [numGo]
  | cons x bs ih => intro k n; unfold numGo; split; simp; split; split; simp; exact Int.natCast_nonneg _; exact ih _ _
theorem numR_nonneg (limit : Int) (bs : List UInt8) (e : Int) : 0 ≤ (numR limit bs e).1 := by
  unfold numR; split; exact numGo_nonneg _ _ _ _; simp
def endR (bs : List UInt8) (e : Int) : Int := if e = 0 ∧ bs ≠ [] then 22 else e
theorem end_any (p : Nat) (bs : List UInt8) (e : Int) (w : World) (h : Rdr w p bs e) :
    Calls Try.prog 57 #[.pointer (some ⟨p, 0, none⟩)] w fun e' w' => e' = .returned (.int .i64 (endR bs e)) ∧ w = w' := by
  obtain ⟨A, c, hs, ho⟩ := h
  have h0 := cell_obj (i := 0) ho rfl
  have h1 := cell_obj (i := 1) ho rfl
  clear ho hs
  by_cases he : e = 0
  · subst he
    by_cases hb : 0 < bs.length
    · have hb' : bs ≠ [] := by intro f; subst f; simp at hb
      have Hf := Lib.hid (show endR bs 0 = 22 by simp [endR, hb'])
      go_enter Try.func57, Try.ntmps57
      go_wp2_with (first | (with_reducible refine stop_append ?_) | (with_reducible refine stop_copy ?_) | (with_reducible refine stop_make ?_) | (with_reducible refine stop_lookup ?_) | (with_reducible refine stop_update ?_) | (with_reducible refine stop_slice ?_) | (with_reducible refine stop_range ?_) | (with_reducible refine stop_next ?_) | (with_reducible refine stop_convert ⟨_, rfl⟩ ?_) | (with_reducible refine stop_convertB ⟨_, _, _, rfl⟩ ?_) | (with_reducible refine stop_eqSlice ⟨_, _, rfl⟩ ?_))
      go_ret
      rw [Hf.out]; exact ⟨rfl, rfl⟩
    · have hb' : bs = [] := List.eq_nil_of_length_eq_zero (by omega)
      have Hf := Lib.hid (show endR bs 0 = 0 by simp [endR, hb'])
      clear hb'
      go_enter Try.func57, Try.ntmps57
      go_wp2_with (first | (with_reducible refine stop_append ?_) | (with_reducible refine stop_copy ?_) | (with_reducible refine stop_make ?_) | (with_reducible refine stop_lookup ?_) | (with_reducible refine stop_update ?_) | (with_reducible refine stop_slice ?_) | (with_reducible refine stop_range ?_) | (with_reducible refine stop_next ?_) | (with_reducible refine stop_convert ⟨_, rfl⟩ ?_) | (with_reducible refine stop_convertB ⟨_, _, _, rfl⟩ ?_) | (with_reducible refine stop_eqSlice ⟨_, _, rfl⟩ ?_))
      go_ret
      rw [Hf.out]; exact ⟨rfl, rfl⟩
  · have Hf := Lib.hid (show endR bs e = e by simp [endR, he])
    have he' : (e == 0) = false := by simpa using he
    have he2 : (e != 0) = true := by simpa using he
    clear he
    go_enter Try.func57, Try.ntmps57
    go_wp2_with (first | (with_reducible refine stop_append ?_) | (with_reducible refine stop_copy ?_) | (with_reducible refine stop_make ?_) | (with_reducible refine stop_lookup ?_) | (with_reducible refine stop_update ?_) | (with_reducible refine stop_slice ?_) | (with_reducible refine stop_range ?_) | (with_reducible refine stop_next ?_) | (with_reducible refine stop_convert ⟨_, rfl⟩ ?_) | (with_reducible refine stop_convertB ⟨_, _, _, rfl⟩ ?_) | (with_reducible refine stop_eqSlice ⟨_, _, rfl⟩ ?_))
    go_ret
    rw [Hf.out]; exact ⟨rfl, rfl⟩
set_option maxRecDepth 100000 in
set_option maxHeartbeats 1000000 in
theorem newreader_any (F : Nat → Prop) (v : Value) (bs : List UInt8) (w : World) (hs : Sl F w v bs) (hl : bs.length ≤ 140737488351232) :
    Calls Try.prog 55 #[v] w fun e' w' => ∃ p, e' = .returned (.pointer (some ⟨p, 0, none⟩)) ∧ Rdr w' p bs 0 ∧ Chg No w w' ∧ w.heap.size ≤ p := by
  obtain ⟨A, c, rfl, _⟩ := id hs
  go_enter Try.func55, Try.ntmps55
  go_wp2_with (first | (with_reducible refine stop_append ?_) | (with_reducible refine stop_copy ?_) | (with_reducible refine stop_make ?_) | (with_reducible refine stop_lookup ?_) | (with_reducible refine stop_update ?_) | (with_reducible refine stop_slice ?_) | (with_reducible refine stop_range ?_) | (with_reducible refine stop_next ?_) | (with_reducible refine stop_convert ⟨_, rfl⟩ ?_) | (with_reducible refine stop_convertB ⟨_, _, _, rfl⟩ ?_) | (with_reducible refine stop_eqSlice ⟨_, _, rfl⟩ ?_))
  refine step_make No w.heap.size (0 : UInt8) Try.underlying36 info_u8 rfl (by decide) (n := bs.length) rfl rfl (by omega) (by omega) (Nat.le_refl _) ?_
  intro v1 w1 ho1 hb1 hc1
  go_wp2_with (first | (with_reducible refine stop_append ?_) | (with_reducible refine stop_copy ?_) | (with_reducible refine stop_make ?_) | (with_reducible refine stop_lookup ?_) | (with_reducible refine stop_update ?_) | (with_reducible refine stop_slice ?_) | (with_reducible refine stop_range ?_) | (with_reducible refine stop_next ?_) | (with_reducible refine stop_convert ⟨_, rfl⟩ ?_) | (with_reducible refine stop_convertB ⟨_, _, _, rfl⟩ ?_) | (with_reducible refine stop_eqSlice ⟨_, _, rfl⟩ ?_))
  refine step_copy Try.underlying36 Try.underlying36 info_u8 ho1 rfl rfl (hs.keepNo hc1) (by simp) ?_
  intro w2 ho2 hc2
  have hs2 : Sl (Ge w2.heap.size) w2 v1 bs := (ho2.sl (fun _ _ f => f)).weak (fun b hb f => by simp [Ge] at f; omega)
  obtain ⟨A1, n1, rfl⟩ : ∃ A1 n1, v1 = .slice A1 bs.length n1 := by obtain ⟨A1, n1, e, _⟩ := hs2; exact ⟨_, _, e⟩
  have Hb := Lib.hid hb1; clear hb1
  go_wp2_with (first | (with_reducible refine stop_append ?_) | (with_reducible refine stop_copy ?_) | (with_reducible refine stop_make ?_) | (with_reducible refine stop_lookup ?_) | (with_reducible refine stop_update ?_) | (with_reducible refine stop_slice ?_) | (with_reducible refine stop_range ?_) | (with_reducible refine stop_next ?_) | (with_reducible refine stop_convert ⟨_, rfl⟩ ?_) | (with_reducible refine stop_convertB ⟨_, _, _, rfl⟩ ?_) | (with_reducible refine stop_eqSlice ⟨_, _, rfl⟩ ?_))
  go_ret
  refine ⟨_, rfl, ⟨A1, n1, hs2.keepNo ((Chg.refl _ _).alloc _), alloc_obj _ _⟩, ((hc1.trans' hc2 (fun _ _ f => f) (fun i hi f => ?_)).alloc _), ?_⟩
  · have := Hb.out; simp only [OB] at f; rw [this] at f; simp at f; omega
  · have := hc1.size; have := hc2.size; omega
end Go.Proofs.Ytlpnbbjmcmjkpaa

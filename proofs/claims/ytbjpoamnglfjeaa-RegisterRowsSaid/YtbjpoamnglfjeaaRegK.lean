/- Walks of package register: Start. -/
import Derived.Test.YtbjpoamnglfjeaaRegJ
set_option linter.unusedVariables false
set_option linter.unusedSimpArgs false
namespace Go.Proofs.Ytbjpoamnglfjeaa
open Go.RowKit Cb

def manyR (r : Rw) : Int := total (lastF r.2.2.2.1 r.2.2.1.length)
def startF (rows : List Rw) (k : Nat) : Int := (rows.take k).foldl (fun n r => wrap64 (n + manyR r)) 0
theorem start_succ (rows : List Rw) (k : Nat) (hk : k < rows.length) : startF rows (k + 1) = wrap64 (startF rows k + manyR rows[k]) := by
  unfold startF; rw [List.take_succ_eq_append_getElem hk, List.foldl_append]; rfl
theorem rmany_any (B p : Nat) (rows : List Rw) (w : World) (h : RegS w B p rows) (hi : RowsI rows) {g n c : Nat} (hc : w.cell? ⟨p, 0, none⟩ = some (.slice (some ⟨g, 0, none⟩) n c)) (i : Nat) (hlt : i < rows.length) :
    Calls Try.prog 73 #[.pointer (some ⟨g, i * 5, none⟩)] w fun e w' => e = .returned (.int .i64 (manyR rows[i])) ∧ Chg No w w' := by
  obtain ⟨vq, vs, vt, a0, a1, a2, a3, a4, hsq, hss, hst⟩ := rg_get h hc i hlt
  obtain ⟨_, hr, htl, hte⟩ := hi.2.2 i hlt
  obtain ⟨_, _, ⟨h1, h8⟩, _⟩ := rightC_iff.1 hr
  obtain ⟨As, cs, rfl⟩ := hss.slice
  exact many_any g (i * 5) _ cs vt (.slice As 0 0) _ As w a2 a3 hst.no htl hte h1 h8
set_option maxRecDepth 100000 in
set_option maxHeartbeats 1000000 in
theorem rstart_yes (B p : Nat) (rows : List Rw) (w : World) (h : RegS w B p rows) (hi : RowsI rows) (m : Nat) (hlt : m < rows.length) :
    Calls Try.prog 37 #[.pointer (some ⟨p, 0, none⟩), .int .i64 (firstR rows + m)] w fun e w' => e = .returned (.tuple #[.int .i64 (startF rows m), .int .i64 0]) ∧ Chg No w w' := by
  obtain ⟨g, c, hc, -, -, -⟩ := rg_row h hi.1
  have Hat := Lib.hid (fun W (hW : Chg No w W) => rat_yes B p rows W (h.keepNo hW) hi (hW.cell hc (not_no _)) rfl m hlt)
  have Hf := Lib.hid (fun W (hW : Chg No w W) => rfirst_any B p rows W (h.keepNo hW) hi)
  have Hm := Lib.hid (fun i (h' : i < rows.length) W (hW : Chg No w W) => rmany_any B p rows W (h.keepNo hW) hi (hW.cell hc (not_no _)) i h')
  have Hst := Lib.hid (start_succ rows)
  obtain ⟨hb1, hb2⟩ := first_bound hi
  have h64 := hi.2.1
  have Hc := Lib.hid (fun W (hW : Chg No w W) => hW.cell hc (not_no _))
  have h0 : startF rows 0 = 0 := rfl
  have H0 := Lib.hid h0
  clear h hi hc h0
  obtain ⟨f, hf⟩ : ∃ f, f = firstR rows := ⟨_, rfl⟩
  rw [← hf] at Hat Hf hb1 hb2 ⊢
  clear hf
  obtain ⟨t, ht⟩ : ∃ t, t = f + m := ⟨_, rfl⟩
  rw [← ht] at Hat ⊢
  have hw : IntKind.i64.wrap (t - f) = (m : Int) := by rw [ht]; rw [IntWalk.i64_in _ (by omega)]; omega
  have hw2 : t - f = (m : Int) := by omega
  clear hb1 hb2 ht
  go_enter Try.func37, Try.ntmps37
  go_wp2_with (first | (with_reducible refine stop_append ?_) | (with_reducible refine stop_copy ?_) | (with_reducible refine stop_make ?_) | (with_reducible refine stop_lookup ?_) | (with_reducible refine stop_update ?_) | (with_reducible refine stop_slice ?_) | (with_reducible refine stop_range ?_) | (with_reducible refine stop_next ?_) | (with_reducible refine stop_convert ⟨_, rfl⟩ ?_) | (with_reducible refine stop_convertB ⟨_, _, _, rfl⟩ ?_) | (with_reducible refine stop_eqSlice ⟨_, _, rfl⟩ ?_))
  refine (Hat.out _ (Chg.refl _ _)).mono ?_
  rintro e w1 ⟨rfl, hc1⟩
  go_wp2_with (first | (with_reducible refine stop_append ?_) | (with_reducible refine stop_copy ?_) | (with_reducible refine stop_make ?_) | (with_reducible refine stop_lookup ?_) | (with_reducible refine stop_update ?_) | (with_reducible refine stop_slice ?_) | (with_reducible refine stop_range ?_) | (with_reducible refine stop_next ?_) | (with_reducible refine stop_convert ⟨_, rfl⟩ ?_) | (with_reducible refine stop_convertB ⟨_, _, _, rfl⟩ ?_) | (with_reducible refine stop_eqSlice ⟨_, _, rfl⟩ ?_))
  refine (Hf.out _ hc1).mono ?_
  rintro e w2 ⟨rfl, hc2⟩
  have hcw2 := hc1.trans hc2
  go_wp2_with (first | (with_reducible refine stop_append ?_) | (with_reducible refine stop_copy ?_) | (with_reducible refine stop_make ?_) | (with_reducible refine stop_lookup ?_) | (with_reducible refine stop_update ?_) | (with_reducible refine stop_slice ?_) | (with_reducible refine stop_range ?_) | (with_reducible refine stop_next ?_) | (with_reducible refine stop_convert ⟨_, rfl⟩ ?_) | (with_reducible refine stop_convertB ⟨_, _, _, rfl⟩ ?_) | (with_reducible refine stop_eqSlice ⟨_, _, rfl⟩ ?_))
  go_loopw [6, 7, 16] (fun v6 _ v16 wr => ∃ k : Nat, k ≤ m ∧ v16 = .int .i64 k ∧ v6 = .int .i64 (startF rows k) ∧ Chg No w wr) (fun _ _ v16 _ => m - (intOf v16).toNat)
  case atStart => exact ⟨0, by omega, rfl, by rw [H0.out], hcw2⟩
  case round =>
    obtain ⟨k, hk, rfl, rfl, hcr⟩ := hrel
    by_cases hkm : k < m
    · have hkl : k < rows.length := by omega
      have hcp := Hc.out _ hcr
      have Hcall := Lib.hid (Hm.out k hkl wr hcr)
      have Hs := Lib.hid (Hst.out k hkl)
      generalize manyR rows[k] = mr at *
      go_wp2_with (first | (with_reducible refine stop_append ?_) | (with_reducible refine stop_copy ?_) | (with_reducible refine stop_make ?_) | (with_reducible refine stop_lookup ?_) | (with_reducible refine stop_update ?_) | (with_reducible refine stop_slice ?_) | (with_reducible refine stop_range ?_) | (with_reducible refine stop_next ?_) | (with_reducible refine stop_convert ⟨_, rfl⟩ ?_) | (with_reducible refine stop_convertB ⟨_, _, _, rfl⟩ ?_) | (with_reducible refine stop_eqSlice ⟨_, _, rfl⟩ ?_))
      refine Hcall.out.mono ?_
      rintro e w3 ⟨rfl, hc3⟩
      go_wp2_with (first | (with_reducible refine stop_append ?_) | (with_reducible refine stop_copy ?_) | (with_reducible refine stop_make ?_) | (with_reducible refine stop_lookup ?_) | (with_reducible refine stop_update ?_) | (with_reducible refine stop_slice ?_) | (with_reducible refine stop_range ?_) | (with_reducible refine stop_next ?_) | (with_reducible refine stop_convert ⟨_, rfl⟩ ?_) | (with_reducible refine stop_convertB ⟨_, _, _, rfl⟩ ?_) | (with_reducible refine stop_eqSlice ⟨_, _, rfl⟩ ?_))
      go_roundw
      case rel => exact ⟨k + 1, by omega, by go_num, by rw [Hs.out], hcr.trans hc3⟩
      case measure => simp [intOf]; omega
    · obtain rfl : k = m := by omega
      go_wp2_with (first | (with_reducible refine stop_append ?_) | (with_reducible refine stop_copy ?_) | (with_reducible refine stop_make ?_) | (with_reducible refine stop_lookup ?_) | (with_reducible refine stop_update ?_) | (with_reducible refine stop_slice ?_) | (with_reducible refine stop_range ?_) | (with_reducible refine stop_next ?_) | (with_reducible refine stop_convert ⟨_, rfl⟩ ?_) | (with_reducible refine stop_convertB ⟨_, _, _, rfl⟩ ?_) | (with_reducible refine stop_eqSlice ⟨_, _, rfl⟩ ?_))
      go_ret2
      exact ⟨rfl, hcr⟩
end Go.Proofs.Ytbjpoamnglfjeaa

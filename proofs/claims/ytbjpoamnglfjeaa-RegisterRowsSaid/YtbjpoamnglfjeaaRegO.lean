/- Walks of package register: fits. -/
import Derived.Test.YtbjpoamnglfjeaaRegN
set_option linter.unusedVariables false
set_option linter.unusedSimpArgs false
namespace Go.Proofs.Ytbjpoamnglfjeaa
open Go.RowKit Cb

def fitsB (n : Option Nat) (l : List Ent) : Bool := decide ((chainF l 0 []).1 = l.length) && !l.any (badB n)
/-- What a pointer to a row is: none, or the number of shards can be read. -/
def RowP (w : World) (px : Option Addr) (nn : Option Nat) : Prop :=
  (px = none ∧ nn = none) ∨ ∃ g o ns As cs, px = some ⟨g, o, none⟩ ∧ nn = some ns ∧ w.cell? ⟨g, o + 2, none⟩ = some (.slice As ns cs)
theorem RowP.keep {w w' : World} {px : Option Addr} {nn : Option Nat} (h : RowP w px nn) (hc : Chg No w w') : RowP w' px nn := by
  rcases h with h | ⟨g, o, ns, As, cs, h1, h2, h3⟩
  · exact .inl h
  · exact .inr ⟨g, o, ns, As, cs, h1, h2, hc.cell h3 (not_no _)⟩
theorem fits1_any (bx : Nat) (px : Option Addr) (nn : Option Nat) (e : Ent) (v : Value) (w : World) (hb : w.cell? ⟨bx, 0, none⟩ = some (.pointer px)) (hr : RowP w px nn) (hs : Sl No w v e.2.2.1) :
    Calls Try.prog 96 #[entV e v, .pointer (some ⟨bx, 0, none⟩)] w fun x w' => x = .returned (.bool (badB nn e)) ∧ Chg No w w' := by
  rcases hr with ⟨rfl, rfl⟩ | ⟨g, o, ns, As, cs, rfl, rfl, h3⟩
  · exact fits1_none bx e v w hb hs
  · exact fits1_some bx g o ns cs As e v w hb h3 hs
set_option maxRecDepth 100000 in
set_option maxHeartbeats 1000000 in
theorem fits_any (px : Option Addr) (nn : Option Nat) (v : Value) (l : List Ent) (w : World) (hr : RowP w px nn) (h : Sl No w v l) (hl : l.length ≤ 2199023255488) (hcb : ∀ e ∈ l, e.2.2.1.length ≤ 17592186043904) :
    Calls Try.prog 68 #[v, .pointer px] w fun e w' => e = .returned (.bool (fitsB nn l)) ∧ Chg No w w' := by
  have Hch := Lib.hid (fun W (hW : Chg No w W) => chain_any v l W (h.keepNo hW) hl hcb)
  have Hct := Lib.hid (fun bx W (hW : Chg No w W) (hb : W.cell? ⟨bx, 0, none⟩ = some (.pointer px)) => containsE_any No v l (badB nn) 96 (.pointer (some ⟨bx, 0, none⟩)) (fun args W => by kernel_rfl) W (h.keepNo hW) (by omega) (fun i h' u W' hW' hu => fits1_any bx px nn l[i] u W' (hW'.cell hb (not_no _)) (hr.keep (hW.trans hW')) hu))
  have hf : fitsB nn l = (decide ((chainF l 0 []).1 = l.length) && !l.any (badB nn)) := rfl
  obtain ⟨A, c, rfl⟩ := h.slice
  clear h hcb hr
  generalize (chainF l 0 []).1 = m at *
  generalize l.any (badB nn) = ab at *
  generalize fitsB nn l = R at *
  have Hf := Lib.hid hf
  clear hf
  have hca := (Chg.refl No w).alloc (.cells #[.pointer px] 139)
  have hb := cell_obj (i := 0) (alloc_obj w (.cells #[.pointer px] 139)) rfl
  by_cases hm : m = l.length
  · have Hm := Lib.hid hm
    rw [hm] at Hch
    clear hm
    go_enter Try.func68, Try.ntmps68
    go_wp2_with (first | (with_reducible refine stop_append ?_) | (with_reducible refine stop_copy ?_) | (with_reducible refine stop_make ?_) | (with_reducible refine stop_lookup ?_) | (with_reducible refine stop_update ?_) | (with_reducible refine stop_slice ?_) | (with_reducible refine stop_range ?_) | (with_reducible refine stop_next ?_) | (with_reducible refine stop_convert ⟨_, rfl⟩ ?_) | (with_reducible refine stop_convertB ⟨_, _, _, rfl⟩ ?_) | (with_reducible refine stop_eqSlice ⟨_, _, rfl⟩ ?_))
    refine (Hch.out _ hca).mono ?_
    rintro e w1 ⟨rfl, hc1⟩
    have hb1 := hc1.cell hb (not_no _)
    have hcw := hca.trans hc1
    go_wp2_with (first | (with_reducible refine stop_append ?_) | (with_reducible refine stop_copy ?_) | (with_reducible refine stop_make ?_) | (with_reducible refine stop_lookup ?_) | (with_reducible refine stop_update ?_) | (with_reducible refine stop_slice ?_) | (with_reducible refine stop_range ?_) | (with_reducible refine stop_next ?_) | (with_reducible refine stop_convert ⟨_, rfl⟩ ?_) | (with_reducible refine stop_convertB ⟨_, _, _, rfl⟩ ?_) | (with_reducible refine stop_eqSlice ⟨_, _, rfl⟩ ?_))
    refine (Hct.out _ _ hcw hb1).mono ?_
    rintro e w2 ⟨rfl, hc2⟩
    go_wp2_with (first | (with_reducible refine stop_append ?_) | (with_reducible refine stop_copy ?_) | (with_reducible refine stop_make ?_) | (with_reducible refine stop_lookup ?_) | (with_reducible refine stop_update ?_) | (with_reducible refine stop_slice ?_) | (with_reducible refine stop_range ?_) | (with_reducible refine stop_next ?_) | (with_reducible refine stop_convert ⟨_, rfl⟩ ?_) | (with_reducible refine stop_convertB ⟨_, _, _, rfl⟩ ?_) | (with_reducible refine stop_eqSlice ⟨_, _, rfl⟩ ?_))
    go_ret
    exact ⟨by rw [Hf.out, decide_eq_true Hm.out]; rfl, hcw.trans hc2⟩
  · have k1 : ((m : Int) == l.length) = false := by simp; omega
    have k2 : (m == l.length) = false := by simpa using hm
    have Hm := Lib.hid hm
    clear hm
    go_enter Try.func68, Try.ntmps68
    go_wp2_with (first | (with_reducible refine stop_append ?_) | (with_reducible refine stop_copy ?_) | (with_reducible refine stop_make ?_) | (with_reducible refine stop_lookup ?_) | (with_reducible refine stop_update ?_) | (with_reducible refine stop_slice ?_) | (with_reducible refine stop_range ?_) | (with_reducible refine stop_next ?_) | (with_reducible refine stop_convert ⟨_, rfl⟩ ?_) | (with_reducible refine stop_convertB ⟨_, _, _, rfl⟩ ?_) | (with_reducible refine stop_eqSlice ⟨_, _, rfl⟩ ?_))
    refine (Hch.out _ hca).mono ?_
    rintro e w1 ⟨rfl, hc1⟩
    go_wp2_with (first | (with_reducible refine stop_append ?_) | (with_reducible refine stop_copy ?_) | (with_reducible refine stop_make ?_) | (with_reducible refine stop_lookup ?_) | (with_reducible refine stop_update ?_) | (with_reducible refine stop_slice ?_) | (with_reducible refine stop_range ?_) | (with_reducible refine stop_next ?_) | (with_reducible refine stop_convert ⟨_, rfl⟩ ?_) | (with_reducible refine stop_convertB ⟨_, _, _, rfl⟩ ?_) | (with_reducible refine stop_eqSlice ⟨_, _, rfl⟩ ?_))
    go_ret
    exact ⟨by rw [Hf.out, decide_eq_false Hm.out]; rfl, hca.trans hc1⟩
end Go.Proofs.Ytbjpoamnglfjeaa

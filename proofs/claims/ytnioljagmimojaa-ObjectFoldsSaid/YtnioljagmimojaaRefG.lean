/- Walks of the document's object: Get, Came, written. -/
import Derived.Test.YtnioljagmimojaaLawU
import Derived.Test.YtnioljagmimojaaLawM
set_option linter.unusedVariables false
set_option linter.unusedSimpArgs false
namespace Go.Proofs.Ytnioljagmimojaa
open Go.RowKit Cb

abbrev RCell := Int × Int × ByteArray
def getL (l : List RCell) (f : Int) : RCell := (l.find? (fun x => decide (x.1 = f))).getD (f, 0, ⟨#[]⟩)
def cellR (x : RCell) : Value := .agg #[.int .i64 x.1, .int .i64 x.2.1, .string x.2.2]
theorem info_rcell : Info Try.prog 71 (.agg #[.int .i64 0, .int .i64 0, .string ⟨#[]⟩]) 3 32 := by unfold Info; kernel_rfl
theorem find_take {l : List RCell} {f : Int} {k : Nat} (h : k < l.length) (hn : ∀ x ∈ l.take k, x.1 ≠ f) (hk : l[k].1 = f) : l.find? (fun x => decide (x.1 = f)) = some l[k] := by
  rw [List.find?_eq_some_iff_getElem]
  exact ⟨by simpa using hk, k, h, rfl, fun j hj => by simpa using hn l[j] (List.mem_take_iff_getElem.2 ⟨j, by omega, rfl⟩)⟩
set_option maxRecDepth 100000 in
set_option maxHeartbeats 1000000 in
theorem getref_any (F : Nat → Prop) (v : Value) (l : List RCell) (f : Int) (w : World) (h : Sl F w v l) (hl : l.length ≤ 1000000) :
    Calls Try.prog 30 #[v, .int .i64 f] w fun e w' => e = .returned (cellR (getL l f)) ∧ Chg No w w' := by
  obtain ⟨A, c, rfl⟩ := h.slice
  have H := Lib.hid h
  clear h
  have hc0 := (Chg.refl No w).alloc (.cells #[.int .i64 0, .int .i64 0, .string ⟨#[]⟩] 71)
  have o4 := alloc_obj w (.cells #[.int .i64 0, .int .i64 0, .string ⟨#[]⟩] 71)
  go_enter Try.func30, Try.ntmps30
  go_wp2_with (first | (with_reducible refine stop_append ?_) | (with_reducible refine stop_copy ?_) | (with_reducible refine stop_make ?_) | (with_reducible refine stop_lookup ?_) | (with_reducible refine stop_update ?_) | (with_reducible refine stop_slice ?_) | (with_reducible refine stop_range ?_) | (with_reducible refine stop_next ?_) | (with_reducible refine stop_convert ⟨_, rfl⟩ ?_) | (with_reducible refine stop_convertB ⟨_, _, _, rfl⟩ ?_) | (with_reducible refine stop_eqSlice ⟨_, _, rfl⟩ ?_))
  generalize w.alloc (.cells #[.int .i64 0, .int .i64 0, .string ⟨#[]⟩] 71) = w0 at *
  obtain ⟨q4, hq⟩ : ∃ q, q = w.heap.size := ⟨_, rfl⟩
  rw [← hq] at o4 ⊢
  have hq4 : w.heap.size ≤ q4 := by omega
  clear hq
  have hA : ∀ i, At q4 i → w.heap.size ≤ i := fun i h => by simp only [At] at h; omega
  go_loopw [5] (fun v5 wr => ∃ k : Nat, k ≤ l.length ∧ v5 = .int .i64 k ∧ Chg No w0 wr ∧ ∀ x ∈ l.take k, x.1 ≠ f) (fun v5 _ => l.length - (intOf v5).toNat)
  case atStart => exact ⟨0, by omega, rfl, Chg.refl _ _, by simp⟩
  case round =>
    obtain ⟨k, hk, rfl, hc, hn⟩ := hrel
    have Hn := Lib.hid hn; clear hn
    have hcw := hc0.trans hc
    have o4r := hc.obj o4 (not_no _)
    by_cases hlt : k < l.length
    · obtain ⟨b, o, d, rfl, _, hbl, ⟨_, _, rfl, rfl, _, _, rfl, rfl, rfl⟩, ha⟩ := (H.out.keepNo hcw).get k hlt
      have ha0 := ha 0 _ rfl
      have ha1 := ha 1 _ rfl
      have ha2 := ha 2 _ rfl
      simp only [show Rep.n RCell = 3 from rfl, Nat.add_zero] at ha0 ha1 ha2
      have Hft := Lib.hid (fun h1 h2 => find_take (l := l) (f := f) hlt h1 h2)
      have Hsn := Lib.hid (show l.take (k + 1) = l.take k ++ [l[k]] from List.take_succ_eq_append_getElem hlt)
      clear ha
      generalize l[k] = x at ha0 ha1 ha2 Hft Hsn
      obtain ⟨x0, x1, x2⟩ := x
      simp only at ha0 ha1 ha2
      by_cases hq : x0 = f
      · subst hq
        have z0 := cell_obj (i := 0) o4r rfl
        have z1 := cell_obj (i := 1) o4r rfl
        have z2 := cell_obj (i := 2) o4r rfl
        have f0 := free_obj (i := 0) o4r
        have f1 := free_obj (i := 1) o4r
        have f2 := free_obj (i := 2) o4r
        have hg : getL l x0 = (x0, x1, x2) := by unfold getL; rw [Hft.out Hn.out rfl]; rfl
        have Hg := Lib.hid hg
        clear hg
        go_wp2_with (first | (with_reducible refine stop_append ?_) | (with_reducible refine stop_copy ?_) | (with_reducible refine stop_make ?_) | (with_reducible refine stop_lookup ?_) | (with_reducible refine stop_update ?_) | (with_reducible refine stop_slice ?_) | (with_reducible refine stop_range ?_) | (with_reducible refine stop_next ?_) | (with_reducible refine stop_convert ⟨_, rfl⟩ ?_) | (with_reducible refine stop_convertB ⟨_, _, _, rfl⟩ ?_) | (with_reducible refine stop_eqSlice ⟨_, _, rfl⟩ ?_))
        refine bodyPost_ret (v := .agg #[.int .i64 x0, .int .i64 x1, .string x2]) (by simp [results, Try.results30, go_sem, *]) rfl ?_
        exact ⟨by rw [Hg.out]; rfl, ((hcw.old (chg_set _) hA).old (chg_set _) hA).old (chg_set _) hA⟩
      · have hq1 : (x0 == f) = false := by simpa using hq
        have hq2 : (x0 != f) = true := by simpa using hq
        have Hq := Lib.hid hq
        clear hq
        go_wp2_with (first | (with_reducible refine stop_append ?_) | (with_reducible refine stop_copy ?_) | (with_reducible refine stop_make ?_) | (with_reducible refine stop_lookup ?_) | (with_reducible refine stop_update ?_) | (with_reducible refine stop_slice ?_) | (with_reducible refine stop_range ?_) | (with_reducible refine stop_next ?_) | (with_reducible refine stop_convert ⟨_, rfl⟩ ?_) | (with_reducible refine stop_convertB ⟨_, _, _, rfl⟩ ?_) | (with_reducible refine stop_eqSlice ⟨_, _, rfl⟩ ?_))
        go_roundw
        case rel => exact ⟨k + 1, by omega, by go_num, hc, fun y hy => by
          rw [Hsn.out] at hy
          rcases List.mem_append.1 hy with hy | hy
          · exact Hn.out y hy
          · simp only [List.mem_singleton] at hy; subst hy; exact Hq.out⟩
        case measure => simp [intOf]; omega
    · obtain rfl : k = l.length := by omega
      have hn := Hn.out
      rw [List.take_length] at hn
      have hg : getL l f = (f, 0, ⟨#[]⟩) := by unfold getL; rw [List.find?_eq_none.2 (fun x hx => by simpa using hn x hx)]; rfl
      have Hg := Lib.hid hg
      have z0 := cell_obj (i := 0) o4r rfl
      have z1 := cell_obj (i := 1) o4r rfl
      have z2 := cell_obj (i := 2) o4r rfl
      have f0 := free_obj (i := 0) o4r
      have f1 := free_obj (i := 1) o4r
      have f2 := free_obj (i := 2) o4r
      clear hn hg Hn
      go_wp2_with (first | (with_reducible refine stop_append ?_) | (with_reducible refine stop_copy ?_) | (with_reducible refine stop_make ?_) | (with_reducible refine stop_lookup ?_) | (with_reducible refine stop_update ?_) | (with_reducible refine stop_slice ?_) | (with_reducible refine stop_range ?_) | (with_reducible refine stop_next ?_) | (with_reducible refine stop_convert ⟨_, rfl⟩ ?_) | (with_reducible refine stop_convertB ⟨_, _, _, rfl⟩ ?_) | (with_reducible refine stop_eqSlice ⟨_, _, rfl⟩ ?_))
      refine bodyPost_ret (v := .agg #[.int .i64 f, .int .i64 0, .string ⟨#[]⟩]) (by simp [results, Try.results30, go_sem, *]) rfl ?_
      exact ⟨by rw [Hg.out]; rfl, ((hcw.old (chg_set _) hA).old (chg_set _) hA).old (chg_set _) hA⟩
def cameP (id : Int) (d : ByteArray) : Bool := decide (parseE d.data.toList = 0) && decide ((parseO d.data.toList).1 = id)
def cameL (xs : List ByteArray) (id : Int) : Int := match xs.findIdx? (cameP id) with | some i => (i : Int) | none => -1
theorem cameL_at {xs : List ByteArray} {id : Int} {k : Nat} (h : k < xs.length) (hn : ∀ x ∈ xs.take k, cameP id x = false) (hk : cameP id xs[k] = true) : cameL xs id = k := by
  unfold cameL
  have : xs.findIdx? (cameP id) = some k := by
    rw [List.findIdx?_eq_some_iff_getElem]
    exact ⟨h, hk, fun j hj => by simpa using hn xs[j] (List.mem_take_iff_getElem.2 ⟨j, by omega, rfl⟩)⟩
  rw [this]
theorem cameL_no {xs : List ByteArray} {id : Int} (hn : ∀ x ∈ xs, cameP id x = false) : cameL xs id = -1 := by
  unfold cameL; rw [List.findIdx?_eq_none_iff.2 (fun x hx => by simpa using hn x hx)]
set_option maxRecDepth 100000 in
set_option maxHeartbeats 1000000 in
theorem came_any (F : Nat → Prop) (v : Value) (xs : List ByteArray) (id : Int) (w : World) (h : Sl F w v xs) (hl : xs.length ≤ 1000000) :
    Calls Try.prog 33 #[v, .int .i64 id] w fun e w' => e = .returned (.int .i64 (cameL xs id)) ∧ Chg No w w' := by
  obtain ⟨A, c, rfl⟩ := h.slice
  have H := Lib.hid h
  clear h
  go_enter Try.func33, Try.ntmps33
  go_wp2_with (first | (with_reducible refine stop_append ?_) | (with_reducible refine stop_copy ?_) | (with_reducible refine stop_make ?_) | (with_reducible refine stop_lookup ?_) | (with_reducible refine stop_update ?_) | (with_reducible refine stop_slice ?_) | (with_reducible refine stop_range ?_) | (with_reducible refine stop_next ?_) | (with_reducible refine stop_convert ⟨_, rfl⟩ ?_) | (with_reducible refine stop_convertB ⟨_, _, _, rfl⟩ ?_) | (with_reducible refine stop_eqSlice ⟨_, _, rfl⟩ ?_))
  go_loopw [5] (fun v5 wr => ∃ k : Nat, k ≤ xs.length ∧ v5 = .int .i64 k ∧ Chg No w wr ∧ ∀ x ∈ xs.take k, cameP id x = false) (fun v5 _ => xs.length - (intOf v5).toNat)
  case atStart => exact ⟨0, by omega, rfl, Chg.refl _ _, by simp⟩
  case round =>
    obtain ⟨k, hk, rfl, hc, hn⟩ := hrel
    have Hn := Lib.hid hn; clear hn
    by_cases hlt : k < xs.length
    · obtain ⟨b, o, d, rfl, _, hbl, rfl, ha⟩ := (H.out.keepNo hc).get k hlt
      have ha0 := ha 0 _ rfl
      simp only [show Rep.n ByteArray = 1 from rfl, Nat.mul_one, Nat.add_zero] at ha0
      have Hat := Lib.hid (fun h1 h2 => cameL_at (xs := xs) (id := id) hlt h1 h2)
      have Hsn := Lib.hid (show xs.take (k + 1) = xs.take k ++ [xs[k]] from List.take_succ_eq_append_getElem hlt)
      clear ha
      generalize xs[k] = x at ha0 Hat Hsn
      have hp := fun W => refparse_both x W
      unfold TxPost at hp
      have hcase : (parseE x.data.toList = 0 ∧ (parseO x.data.toList).1 = id ∧ cameP id x = true) ∨ (parseE x.data.toList = 0 ∧ ((parseO x.data.toList).1 == id) = false ∧ cameP id x = false) ∨ ((parseE x.data.toList == 0) = false ∧ (parseE x.data.toList != 0) = true ∧ cameP id x = false) := by
        by_cases h1 : parseE x.data.toList = 0
        · by_cases h2 : (parseO x.data.toList).1 = id
          · exact .inl ⟨h1, h2, by simp [cameP, h1, h2]⟩
          · exact .inr (.inl ⟨h1, by simpa using h2, by simp [cameP, h2]⟩)
        · exact .inr (.inr ⟨by simpa using h1, by simpa using h1, by simp [cameP, h1]⟩)
      generalize parseE x.data.toList = pe at hp hcase
      generalize parseO x.data.toList = po at hp hcase
      obtain ⟨pi, pr, pw⟩ := po
      simp only at hp hcase
      have Hp := Lib.hid hp
      clear hp
      go_wp2_with (first | (with_reducible refine stop_append ?_) | (with_reducible refine stop_copy ?_) | (with_reducible refine stop_make ?_) | (with_reducible refine stop_lookup ?_) | (with_reducible refine stop_update ?_) | (with_reducible refine stop_slice ?_) | (with_reducible refine stop_range ?_) | (with_reducible refine stop_next ?_) | (with_reducible refine stop_convert ⟨_, rfl⟩ ?_) | (with_reducible refine stop_convertB ⟨_, _, _, rfl⟩ ?_) | (with_reducible refine stop_eqSlice ⟨_, _, rfl⟩ ?_))
      refine (Hp.out wr).mono ?_
      rintro e w3 ⟨v1, v2, rfl, hc3, hs1, hs2⟩
      obtain ⟨B1, c1, rfl⟩ := hs1.slice
      obtain ⟨B2, c2, rfl⟩ := hs2.slice
      have o6 := alloc_obj w3 (.cells #[.int .i64 pi, .slice B1 pr.length c1, .slice B2 pw.length c2] 25)
      have z0 := cell_obj (i := 0) o6 rfl
      have hcw := (hc.trans hc3).alloc (.cells #[.int .i64 pi, .slice B1 pr.length c1, .slice B2 pw.length c2] 25)
      clear hs1 hs2
      rcases hcase with ⟨rfl, rfl, hcp⟩ | ⟨rfl, hq1, hcp⟩ | ⟨hq1, hq2, hcp⟩
      · have Hcp := Lib.hid hcp
        clear hcp
        go_wp2_with (first | (with_reducible refine stop_append ?_) | (with_reducible refine stop_copy ?_) | (with_reducible refine stop_make ?_) | (with_reducible refine stop_lookup ?_) | (with_reducible refine stop_update ?_) | (with_reducible refine stop_slice ?_) | (with_reducible refine stop_range ?_) | (with_reducible refine stop_next ?_) | (with_reducible refine stop_convert ⟨_, rfl⟩ ?_) | (with_reducible refine stop_convertB ⟨_, _, _, rfl⟩ ?_) | (with_reducible refine stop_eqSlice ⟨_, _, rfl⟩ ?_))
        go_ret
        exact ⟨by rw [Hat.out Hn.out Hcp.out]; rfl, hcw⟩
      all_goals
        have Hcp := Lib.hid hcp
        clear hcp
        go_wp2_with (first | (with_reducible refine stop_append ?_) | (with_reducible refine stop_copy ?_) | (with_reducible refine stop_make ?_) | (with_reducible refine stop_lookup ?_) | (with_reducible refine stop_update ?_) | (with_reducible refine stop_slice ?_) | (with_reducible refine stop_range ?_) | (with_reducible refine stop_next ?_) | (with_reducible refine stop_convert ⟨_, rfl⟩ ?_) | (with_reducible refine stop_convertB ⟨_, _, _, rfl⟩ ?_) | (with_reducible refine stop_eqSlice ⟨_, _, rfl⟩ ?_))
        go_roundw
        case rel => exact ⟨k + 1, by omega, by go_num, hcw, fun y hy => by
          rw [Hsn.out] at hy
          rcases List.mem_append.1 hy with hy | hy
          · exact Hn.out y hy
          · simp only [List.mem_singleton] at hy; subst hy; exact Hcp.out⟩
        case measure => simp [intOf]; omega
    · obtain rfl : k = xs.length := by omega
      have hn := Hn.out
      rw [List.take_length] at hn
      have Hno := Lib.hid (cameL_no hn)
      clear hn Hn
      go_wp2_with (first | (with_reducible refine stop_append ?_) | (with_reducible refine stop_copy ?_) | (with_reducible refine stop_make ?_) | (with_reducible refine stop_lookup ?_) | (with_reducible refine stop_update ?_) | (with_reducible refine stop_slice ?_) | (with_reducible refine stop_range ?_) | (with_reducible refine stop_next ?_) | (with_reducible refine stop_convert ⟨_, rfl⟩ ?_) | (with_reducible refine stop_convertB ⟨_, _, _, rfl⟩ ?_) | (with_reducible refine stop_eqSlice ⟨_, _, rfl⟩ ?_))
      go_ret
      exact ⟨by rw [Hno.out]; rfl, hc⟩
end Go.Proofs.Ytnioljagmimojaa

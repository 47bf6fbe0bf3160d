/- Walks of package register: Start of no term; Find. -/
import Derived.Test.YtbjpoamnglfjeaaRegK
set_option linter.unusedVariables false
set_option linter.unusedSimpArgs false
namespace Go.Proofs.Ytbjpoamnglfjeaa
open Go.RowKit Cb

set_option maxRecDepth 100000 in
set_option maxHeartbeats 1000000 in
theorem rstart_no (B p : Nat) (rows : List Rw) (w : World) (h : RegS w B p rows) (hi : RowsI rows) (t : Int) (ht : t < firstR rows ∨ firstR rows + (rows.length - 1 : Nat) < t) :
    Calls Try.prog 37 #[.pointer (some ⟨p, 0, none⟩), .int .i64 t] w fun e w' => e = .returned (.tuple #[.int .i64 0, .int .i64 141]) ∧ Chg No w w' := by
  have Hat := Lib.hid (rat_no B p rows w h hi t ht)
  clear h hi ht
  go_enter Try.func37, Try.ntmps37
  go_wp2_with (first | (with_reducible refine stop_append ?_) | (with_reducible refine stop_copy ?_) | (with_reducible refine stop_make ?_) | (with_reducible refine stop_lookup ?_) | (with_reducible refine stop_update ?_) | (with_reducible refine stop_slice ?_) | (with_reducible refine stop_range ?_) | (with_reducible refine stop_next ?_) | (with_reducible refine stop_convert ⟨_, rfl⟩ ?_) | (with_reducible refine stop_convertB ⟨_, _, _, rfl⟩ ?_) | (with_reducible refine stop_eqSlice ⟨_, _, rfl⟩ ?_))
  refine Hat.out.mono ?_
  rintro e w1 ⟨rfl, hc1⟩
  go_wp2_with (first | (with_reducible refine stop_append ?_) | (with_reducible refine stop_copy ?_) | (with_reducible refine stop_make ?_) | (with_reducible refine stop_lookup ?_) | (with_reducible refine stop_update ?_) | (with_reducible refine stop_slice ?_) | (with_reducible refine stop_range ?_) | (with_reducible refine stop_next ?_) | (with_reducible refine stop_convert ⟨_, rfl⟩ ?_) | (with_reducible refine stop_convertB ⟨_, _, _, rfl⟩ ?_) | (with_reducible refine stop_eqSlice ⟨_, _, rfl⟩ ?_))
  go_ret2
  exact ⟨rfl, hc1⟩
def findF : List Rw → Int → Option (Int × Int)
  | [], _ => none
  | r :: rest, x => if r.2.2.2.2 = false ∨ x < manyR r then some (r.1, x) else findF rest (wrap64 (x - manyR r))
theorem find_drop {rows : List Rw} {k : Nat} (hk : k < rows.length) (x : Int) : findF (rows.drop k) x = if rows[k].2.2.2.2 = false ∨ x < manyR rows[k] then some (rows[k].1, x) else findF (rows.drop (k + 1)) (wrap64 (x - manyR rows[k])) := by
  rw [List.drop_eq_getElem_cons hk]; rfl
def FindOut (r : Option (Int × Int)) (w : World) (e : Ending) (w' : World) : Prop :=
  (match r with | some y => e = .returned (.tuple #[.agg #[.int .i64 y.1, .int .i64 y.2], .int .i64 0]) | none => e = .returned (.tuple #[.agg #[.int .i64 0, .int .i64 0], .int .i64 1])) ∧ Chg No w w'
set_option maxRecDepth 100000 in
set_option maxHeartbeats 1000000 in
theorem rfind_any (B p : Nat) (rows : List Rw) (w : World) (h : RegS w B p rows) (hi : RowsI rows) (pos : Int) (hp : 0 ≤ pos) :
    Calls Try.prog 38 #[.pointer (some ⟨p, 0, none⟩), .int .i64 pos] w (FindOut (findF rows pos) w) := by
  obtain ⟨g, c, hc, -, -, -⟩ := rg_row h hi.1
  have Hm := Lib.hid (fun i (h' : i < rows.length) W (hW : Chg No w W) => rmany_any B p rows W (h.keepNo hW) hi (hW.cell hc (not_no _)) i h')
  have Hg := Lib.hid (fun i (h' : i < rows.length) W (hW : Chg No w W) => rg_get (h.keepNo hW) (hW.cell hc (not_no _)) i h')
  have Hc := Lib.hid (fun W (hW : Chg No w W) => hW.cell hc (not_no _))
  have Hfd := Lib.hid (fun k (hk : k < rows.length) x => find_drop hk x)
  have h64 := hi.2.1
  obtain ⟨R, hR⟩ : ∃ R, R = findF rows pos := ⟨_, rfl⟩
  rw [← hR]
  have HR := Lib.hid hR
  have hn : ¬ pos < 0 := by omega
  clear h hi hc hR hp
  have o4 := alloc_obj w (.cells #[.int .i64 0, .int .i64 0] 50)
  have hca := (Chg.refl No w).alloc (.cells #[.int .i64 0, .int .i64 0] 50)
  have Hca := Lib.hid (fun W (hW : Chg No (w.alloc (.cells #[.int .i64 0, .int .i64 0] 50)) W) => hca.trans hW)
  have hcp0 := Hc.out _ hca
  go_enter Try.func38, Try.ntmps38
  go_wp2_with (first | (with_reducible refine stop_append ?_) | (with_reducible refine stop_copy ?_) | (with_reducible refine stop_make ?_) | (with_reducible refine stop_lookup ?_) | (with_reducible refine stop_update ?_) | (with_reducible refine stop_slice ?_) | (with_reducible refine stop_range ?_) | (with_reducible refine stop_next ?_) | (with_reducible refine stop_convert ⟨_, rfl⟩ ?_) | (with_reducible refine stop_convertB ⟨_, _, _, rfl⟩ ?_) | (with_reducible refine stop_eqSlice ⟨_, _, rfl⟩ ?_))
  generalize w.alloc (.cells #[.int .i64 0, .int .i64 0] 50) = w0 at *
  obtain ⟨q4, hq4⟩ : ∃ q, q = w.heap.size := ⟨_, rfl⟩
  rw [← hq4] at o4 ⊢
  have hge : w.heap.size ≤ q4 := by omega
  clear hq4 hcp0
  go_loopw [1, 6, 7, 16] (fun v1 _ _ v16 wr => ∃ (k : Nat) (x : Int), k ≤ rows.length ∧ v16 = .int .i64 k ∧ v1 = .int .i64 x ∧ Chg No w0 wr ∧ R = findF (rows.drop k) x) (fun _ _ _ v16 _ => rows.length - (intOf v16).toNat)
  case atStart => exact ⟨0, pos, by omega, rfl, rfl, Chg.refl _ _, HR.out⟩
  case round =>
    obtain ⟨k, x, hk, rfl, rfl, hcr, hrr⟩ := hrel
    have Hrr := Lib.hid hrr
    clear hrr
    have hcw := hca.trans hcr
    have hcp := Hc.out _ hcw
    have o4r := hcr.obj o4 (not_no _)
    have z0 := cell_obj (i := 0) o4r rfl
    have z1 := cell_obj (i := 1) o4r rfl
    have f0 := free_obj (i := 0) o4r
    have f1 := free_obj (i := 1) o4r
    by_cases hkl : k < rows.length
    · obtain ⟨_, _, _, a0, -, -, -, a4, -⟩ := Hg.out k hkl wr hcw
      have Hcall := Lib.hid (fun W (hW : Chg No wr W) => Hm.out k hkl W (hcw.trans hW))
      have Hd := Lib.hid (Hrr.out.trans (Hfd.out k hkl x))
      clear Hrr
      generalize manyR rows[k] = mr at *
      generalize rows[k].2.2.2.2 = ov at *
      generalize rows[k].1 = tt at *
      cases ov with
      | false =>
        have Hd2 := Lib.hid (show R = some (tt, x) by rw [Hd.out, if_pos (.inl rfl)])
        clear Hd
        go_wp2_with (first | (with_reducible refine stop_append ?_) | (with_reducible refine stop_copy ?_) | (with_reducible refine stop_make ?_) | (with_reducible refine stop_lookup ?_) | (with_reducible refine stop_update ?_) | (with_reducible refine stop_slice ?_) | (with_reducible refine stop_range ?_) | (with_reducible refine stop_next ?_) | (with_reducible refine stop_convert ⟨_, rfl⟩ ?_) | (with_reducible refine stop_convertB ⟨_, _, _, rfl⟩ ?_) | (with_reducible refine stop_eqSlice ⟨_, _, rfl⟩ ?_))
        refine bodyPost_ret (v := .tuple #[.agg #[.int .i64 tt, .int .i64 x], .int .i64 0]) (by simp [results, Try.results38, go_sem, *]) rfl ?_
        rw [Hd2.out]
        exact ⟨rfl, (hcw.setCell (.inr hge) _).setCell (.inr hge) _⟩
      | true =>
        by_cases hx : x < mr
        · have Hd2 := Lib.hid (show R = some (tt, x) by rw [Hd.out, if_pos (.inr hx)])
          clear Hd
          go_wp2_with (first | (with_reducible refine stop_append ?_) | (with_reducible refine stop_copy ?_) | (with_reducible refine stop_make ?_) | (with_reducible refine stop_lookup ?_) | (with_reducible refine stop_update ?_) | (with_reducible refine stop_slice ?_) | (with_reducible refine stop_range ?_) | (with_reducible refine stop_next ?_) | (with_reducible refine stop_convert ⟨_, rfl⟩ ?_) | (with_reducible refine stop_convertB ⟨_, _, _, rfl⟩ ?_) | (with_reducible refine stop_eqSlice ⟨_, _, rfl⟩ ?_))
          refine (Hcall.out _ (Chg.refl _ _)).mono ?_
          rintro e w3 ⟨rfl, hc3⟩
          have o43 := hc3.obj o4r (not_no _)
          have hcw3 := hcw.trans hc3
          replace a0 := hc3.cell a0 (not_no _)
          clear z0 z1 f0 f1 a4
          have z0 := cell_obj (i := 0) o43 rfl
          have z1 := cell_obj (i := 1) o43 rfl
          have f0 := free_obj (i := 0) o43
          have f1 := free_obj (i := 1) o43
          go_wp2_with (first | (with_reducible refine stop_append ?_) | (with_reducible refine stop_copy ?_) | (with_reducible refine stop_make ?_) | (with_reducible refine stop_lookup ?_) | (with_reducible refine stop_update ?_) | (with_reducible refine stop_slice ?_) | (with_reducible refine stop_range ?_) | (with_reducible refine stop_next ?_) | (with_reducible refine stop_convert ⟨_, rfl⟩ ?_) | (with_reducible refine stop_convertB ⟨_, _, _, rfl⟩ ?_) | (with_reducible refine stop_eqSlice ⟨_, _, rfl⟩ ?_))
          refine bodyPost_ret (v := .tuple #[.agg #[.int .i64 tt, .int .i64 x], .int .i64 0]) (by simp [results, Try.results38, go_sem, *]) rfl ?_
          rw [Hd2.out]
          exact ⟨rfl, (hcw3.setCell (.inr hge) _).setCell (.inr hge) _⟩
        · have Hd2 := Lib.hid (show R = findF (rows.drop (k + 1)) (wrap64 (x - mr)) by rw [Hd.out, if_neg (by simp; omega)])
          clear Hd
          go_wp2_with (first | (with_reducible refine stop_append ?_) | (with_reducible refine stop_copy ?_) | (with_reducible refine stop_make ?_) | (with_reducible refine stop_lookup ?_) | (with_reducible refine stop_update ?_) | (with_reducible refine stop_slice ?_) | (with_reducible refine stop_range ?_) | (with_reducible refine stop_next ?_) | (with_reducible refine stop_convert ⟨_, rfl⟩ ?_) | (with_reducible refine stop_convertB ⟨_, _, _, rfl⟩ ?_) | (with_reducible refine stop_eqSlice ⟨_, _, rfl⟩ ?_))
          refine (Hcall.out _ (Chg.refl _ _)).mono ?_
          rintro e w3 ⟨rfl, hc3⟩
          go_wp2_with (first | (with_reducible refine stop_append ?_) | (with_reducible refine stop_copy ?_) | (with_reducible refine stop_make ?_) | (with_reducible refine stop_lookup ?_) | (with_reducible refine stop_update ?_) | (with_reducible refine stop_slice ?_) | (with_reducible refine stop_range ?_) | (with_reducible refine stop_next ?_) | (with_reducible refine stop_convert ⟨_, rfl⟩ ?_) | (with_reducible refine stop_convertB ⟨_, _, _, rfl⟩ ?_) | (with_reducible refine stop_eqSlice ⟨_, _, rfl⟩ ?_))
          refine (Hcall.out _ hc3).mono ?_
          rintro e w5 ⟨rfl, hc5⟩
          go_wp2_with (first | (with_reducible refine stop_append ?_) | (with_reducible refine stop_copy ?_) | (with_reducible refine stop_make ?_) | (with_reducible refine stop_lookup ?_) | (with_reducible refine stop_update ?_) | (with_reducible refine stop_slice ?_) | (with_reducible refine stop_range ?_) | (with_reducible refine stop_next ?_) | (with_reducible refine stop_convert ⟨_, rfl⟩ ?_) | (with_reducible refine stop_convertB ⟨_, _, _, rfl⟩ ?_) | (with_reducible refine stop_eqSlice ⟨_, _, rfl⟩ ?_))
          go_roundw
          case rel => exact ⟨k + 1, _, by omega, by go_num, rfl, (hcr.trans hc3).trans hc5, Hd2.out⟩
          case measure => simp [intOf]; omega
    · obtain rfl : k = rows.length := by omega
      have Hd2 := Lib.hid (show R = none by rw [Hrr.out, List.drop_length]; rfl)
      clear Hrr
      go_wp2_with (first | (with_reducible refine stop_append ?_) | (with_reducible refine stop_copy ?_) | (with_reducible refine stop_make ?_) | (with_reducible refine stop_lookup ?_) | (with_reducible refine stop_update ?_) | (with_reducible refine stop_slice ?_) | (with_reducible refine stop_range ?_) | (with_reducible refine stop_next ?_) | (with_reducible refine stop_convert ⟨_, rfl⟩ ?_) | (with_reducible refine stop_convertB ⟨_, _, _, rfl⟩ ?_) | (with_reducible refine stop_eqSlice ⟨_, _, rfl⟩ ?_))
      refine bodyPost_ret (v := .tuple #[.agg #[.int .i64 0, .int .i64 0], .int .i64 1]) (by simp [results, Try.results38, go_sem, *]) rfl ?_
      rw [Hd2.out]
      exact ⟨rfl, (hcw.setCell (.inr hge) _).setCell (.inr hge) _⟩
end Go.Proofs.Ytbjpoamnglfjeaa

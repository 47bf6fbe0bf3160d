/- Texts RegK, RegL, RegM, RegN, RegO, RegQ, RegP, RegR, RdcF, RdcG, RdcE, RdcH. -/
import Derived.Test.YtbjpoamnglfjeaaMg7
/- Walks of package register: Start. -/
set_option linter.unusedVariables false
set_option linter.unusedSimpArgs false
namespace Go.Proofs.Ytbjpoamnglfjeaa
open Go.RowKit Cb

def manyR (r : Rw) : Int := total (lastF r.2.2.2.1 r.2.2.1.length)
def startF (rows : List Rw) (k : Nat) : Int := (rows.take k).foldl (fun n r => wrap64 (n + manyR r)) 0
theorem start_succ (rows : List Rw) (k : Nat) (hk : k < rows.length) : startF rows (k + 1) = wrap64 (startF rows k + manyR rows[k]) := by
  unfold startF; rw [List.take_succ_eq_append_getElem hk, List.foldl_append]; rfl
theorem rmany_any (B p : Nat) (rows : List Rw) (w : World) (h : RegS w B p rows) (hi : RowsI rows) {g n c : Nat} (hc : w.cell? ⟨p, 0, none⟩ = some (.slice (some ⟨g, 0, none⟩) n c)) (i : Nat) (hlt : i < rows.length) :
    Calls Try.prog 73 #[.pointer (some ⟨g, i * 5, none⟩)] w fun e w' => e = .returned (.int .i64 (manyR rows[i])) ∧ Chg No w w' := by
  obtain ⟨vq, vs, vt, a0, a1, a2, a3, a4, hsq, hss, hst⟩ := rg_get h hc i hlt
  obtain ⟨_, hr, htl, hte⟩ := hi.2.2 i hlt
  obtain ⟨_, _, ⟨h1, h8⟩, _⟩ := rightC_iff.1 hr
  obtain ⟨As, cs, rfl⟩ := hss.slice
  exact many_any g (i * 5) _ cs vt (.slice As 0 0) _ As w a2 a3 hst.no htl hte h1 h8
set_option maxRecDepth 100000 in
set_option maxHeartbeats 1000000 in
theorem rstart_yes (B p : Nat) (rows : List Rw) (w : World) (h : RegS w B p rows) (hi : RowsI rows) (m : Nat) (hlt : m < rows.length) :
    Calls Try.prog 37 #[.pointer (some ⟨p, 0, none⟩), .int .i64 (firstR rows + m)] w fun e w' => e = .returned (.tuple #[.int .i64 (startF rows m), .int .i64 0]) ∧ Chg No w w' := by
  obtain ⟨g, c, hc, -, -, -⟩ := rg_row h hi.1
  have Hat := Lib.hid (fun W (hW : Chg No w W) => rat_yes B p rows W (h.keepNo hW) hi (hW.cell hc (not_no _)) rfl m hlt)
  have Hf := Lib.hid (fun W (hW : Chg No w W) => rfirst_any B p rows W (h.keepNo hW) hi)
  have Hm := Lib.hid (fun i (h' : i < rows.length) W (hW : Chg No w W) => rmany_any B p rows W (h.keepNo hW) hi (hW.cell hc (not_no _)) i h')
  have Hst := Lib.hid (start_succ rows)
  obtain ⟨hb1, hb2⟩ := first_bound hi
  have h64 := hi.2.1
  have Hc := Lib.hid (fun W (hW : Chg No w W) => hW.cell hc (not_no _))
  have h0 : startF rows 0 = 0 := rfl
  have H0 := Lib.hid h0
  clear h hi hc h0
  obtain ⟨f, hf⟩ : ∃ f, f = firstR rows := ⟨_, rfl⟩
  rw [← hf] at Hat Hf hb1 hb2 ⊢
  clear hf
  obtain ⟨t, ht⟩ : ∃ t, t = f + m := ⟨_, rfl⟩
  rw [← ht] at Hat ⊢
  have hw : IntKind.i64.wrap (t - f) = (m : Int) := by rw [ht]; rw [IntWalk.i64_in _ (by omega)]; omega
  have hw2 : t - f = (m : Int) := by omega
  clear hb1 hb2 ht
  go_enter Try.func37, Try.ntmps37
  go_wp2_with (with_reducible first | refine stop_append ?_ | refine stop_copy ?_ | refine stop_make ?_ | refine stop_lookup ?_ | refine stop_update ?_ | refine stop_slice ?_ | refine stop_range ?_ | refine stop_next ?_ | refine stop_convert ⟨_, rfl⟩ ?_ | refine stop_convertB ⟨_, _, _, rfl⟩ ?_ | refine stop_eqSlice ⟨_, _, rfl⟩ ?_)
  refine (Hat.out _ (Chg.refl _ _)).mono ?_
  rintro e w1 ⟨rfl, hc1⟩
  go_wp2_with (with_reducible first | refine stop_append ?_ | refine stop_copy ?_ | refine stop_make ?_ | refine stop_lookup ?_ | refine stop_update ?_ | refine stop_slice ?_ | refine stop_range ?_ | refine stop_next ?_ | refine stop_convert ⟨_, rfl⟩ ?_ | refine stop_convertB ⟨_, _, _, rfl⟩ ?_ | refine stop_eqSlice ⟨_, _, rfl⟩ ?_)
  refine (Hf.out _ hc1).mono ?_
  rintro e w2 ⟨rfl, hc2⟩
  have hcw2 := hc1.trans hc2
  go_wp2_with (with_reducible first | refine stop_append ?_ | refine stop_copy ?_ | refine stop_make ?_ | refine stop_lookup ?_ | refine stop_update ?_ | refine stop_slice ?_ | refine stop_range ?_ | refine stop_next ?_ | refine stop_convert ⟨_, rfl⟩ ?_ | refine stop_convertB ⟨_, _, _, rfl⟩ ?_ | refine stop_eqSlice ⟨_, _, rfl⟩ ?_)
  go_loopw [6, 7, 16] (fun v6 _ v16 wr => ∃ k : Nat, k ≤ m ∧ v16 = .int .i64 k ∧ v6 = .int .i64 (startF rows k) ∧ Chg No w wr) (fun _ _ v16 _ => m - (intOf v16).toNat)
  case atStart => exact ⟨0, by omega, rfl, by rw [H0.out], hcw2⟩
  case round =>
    obtain ⟨k, hk, rfl, rfl, hcr⟩ := hrel
    by_cases hkm : k < m
    · have hkl : k < rows.length := by omega
      have hcp := Hc.out _ hcr
      have Hcall := Lib.hid (Hm.out k hkl wr hcr)
      have Hs := Lib.hid (Hst.out k hkl)
      generalize manyR rows[k] = mr at *
      go_wp2_with (with_reducible first | refine stop_append ?_ | refine stop_copy ?_ | refine stop_make ?_ | refine stop_lookup ?_ | refine stop_update ?_ | refine stop_slice ?_ | refine stop_range ?_ | refine stop_next ?_ | refine stop_convert ⟨_, rfl⟩ ?_ | refine stop_convertB ⟨_, _, _, rfl⟩ ?_ | refine stop_eqSlice ⟨_, _, rfl⟩ ?_)
      refine Hcall.out.mono ?_
      rintro e w3 ⟨rfl, hc3⟩
      go_wp2_with (with_reducible first | refine stop_append ?_ | refine stop_copy ?_ | refine stop_make ?_ | refine stop_lookup ?_ | refine stop_update ?_ | refine stop_slice ?_ | refine stop_range ?_ | refine stop_next ?_ | refine stop_convert ⟨_, rfl⟩ ?_ | refine stop_convertB ⟨_, _, _, rfl⟩ ?_ | refine stop_eqSlice ⟨_, _, rfl⟩ ?_)
      go_roundw
      case rel => exact ⟨k + 1, by omega, by go_num, by rw [Hs.out], hcr.trans hc3⟩
      case measure => simp [intOf]; omega
    · obtain rfl : k = m := by omega
      go_wp2_with (with_reducible first | refine stop_append ?_ | refine stop_copy ?_ | refine stop_make ?_ | refine stop_lookup ?_ | refine stop_update ?_ | refine stop_slice ?_ | refine stop_range ?_ | refine stop_next ?_ | refine stop_convert ⟨_, rfl⟩ ?_ | refine stop_convertB ⟨_, _, _, rfl⟩ ?_ | refine stop_eqSlice ⟨_, _, rfl⟩ ?_)
      go_ret2
      exact ⟨rfl, hcr⟩
end Go.Proofs.Ytbjpoamnglfjeaa


/- Walks of package register: Start of no term; Find. -/
set_option linter.unusedVariables false
set_option linter.unusedSimpArgs false
namespace Go.Proofs.Ytbjpoamnglfjeaa
open Go.RowKit Cb

set_option maxRecDepth 100000 in
set_option maxHeartbeats 1000000 in
theorem rstart_no (B p : Nat) (rows : List Rw) (w : World) (h : RegS w B p rows) (hi : RowsI rows) (t : Int) (ht : t < firstR rows ∨ firstR rows + (rows.length - 1 : Nat) < t) :
    Calls Try.prog 37 #[.pointer (some ⟨p, 0, none⟩), .int .i64 t] w fun e w' => e = .returned (.tuple #[.int .i64 0, .int .i64 141]) ∧ Chg No w w' := by
  have Hat := Lib.hid (rat_no B p rows w h hi t ht)
  clear h hi ht
  go_enter Try.func37, Try.ntmps37
  go_wp2_with (with_reducible first | refine stop_append ?_ | refine stop_copy ?_ | refine stop_make ?_ | refine stop_lookup ?_ | refine stop_update ?_ | refine stop_slice ?_ | refine stop_range ?_ | refine stop_next ?_ | refine stop_convert ⟨_, rfl⟩ ?_ | refine stop_convertB ⟨_, _, _, rfl⟩ ?_ | refine stop_eqSlice ⟨_, _, rfl⟩ ?_)
  refine Hat.out.mono ?_
  rintro e w1 ⟨rfl, hc1⟩
  go_wp2_with (with_reducible first | refine stop_append ?_ | refine stop_copy ?_ | refine stop_make ?_ | refine stop_lookup ?_ | refine stop_update ?_ | refine stop_slice ?_ | refine stop_range ?_ | refine stop_next ?_ | refine stop_convert ⟨_, rfl⟩ ?_ | refine stop_convertB ⟨_, _, _, rfl⟩ ?_ | refine stop_eqSlice ⟨_, _, rfl⟩ ?_)
  go_ret2
  exact ⟨rfl, hc1⟩
def findF : List Rw → Int → Option (Int × Int)
  | [], _ => none
  | r :: rest, x => if r.2.2.2.2 = false ∨ x < manyR r then some (r.1, x) else findF rest (wrap64 (x - manyR r))
theorem find_drop {rows : List Rw} {k : Nat} (hk : k < rows.length) (x : Int) : findF (rows.drop k) x = if rows[k].2.2.2.2 = false ∨ x < manyR rows[k] then some (rows[k].1, x) else findF (rows.drop (k + 1)) (wrap64 (x - manyR rows[k])) := by
  rw [List.drop_eq_getElem_cons hk]; rfl
def FindOut (r : Option (Int × Int)) (w : World) (e : Ending) (w' : World) : Prop :=
  (match r with | some y => e = .returned (.tuple #[.agg #[.int .i64 y.1, .int .i64 y.2], .int .i64 0]) | none => e = .returned (.tuple #[.agg #[.int .i64 0, .int .i64 0], .int .i64 1])) ∧ Chg No w w'
set_option maxRecDepth 100000 in
set_option maxHeartbeats 1000000 in
theorem rfind_any (B p : Nat) (rows : List Rw) (w : World) (h : RegS w B p rows) (hi : RowsI rows) (pos : Int) (hp : 0 ≤ pos) :
    Calls Try.prog 38 #[.pointer (some ⟨p, 0, none⟩), .int .i64 pos] w (FindOut (findF rows pos) w) := by
  obtain ⟨g, c, hc, -, -, -⟩ := rg_row h hi.1
  have Hm := Lib.hid (fun i (h' : i < rows.length) W (hW : Chg No w W) => rmany_any B p rows W (h.keepNo hW) hi (hW.cell hc (not_no _)) i h')
  have Hg := Lib.hid (fun i (h' : i < rows.length) W (hW : Chg No w W) => rg_get (h.keepNo hW) (hW.cell hc (not_no _)) i h')
  have Hc := Lib.hid (fun W (hW : Chg No w W) => hW.cell hc (not_no _))
  have Hfd := Lib.hid (fun k (hk : k < rows.length) x => find_drop hk x)
  have h64 := hi.2.1
  obtain ⟨R, hR⟩ : ∃ R, R = findF rows pos := ⟨_, rfl⟩
  rw [← hR]
  have HR := Lib.hid hR
  have hn : ¬ pos < 0 := by omega
  clear h hi hc hR hp
  have o4 := alloc_obj w (.cells #[.int .i64 0, .int .i64 0] 50)
  have hca := (Chg.refl No w).alloc (.cells #[.int .i64 0, .int .i64 0] 50)
  have Hca := Lib.hid (fun W (hW : Chg No (w.alloc (.cells #[.int .i64 0, .int .i64 0] 50)) W) => hca.trans hW)
  have hcp0 := Hc.out _ hca
  go_enter Try.func38, Try.ntmps38
  go_wp2_with (with_reducible first | refine stop_append ?_ | refine stop_copy ?_ | refine stop_make ?_ | refine stop_lookup ?_ | refine stop_update ?_ | refine stop_slice ?_ | refine stop_range ?_ | refine stop_next ?_ | refine stop_convert ⟨_, rfl⟩ ?_ | refine stop_convertB ⟨_, _, _, rfl⟩ ?_ | refine stop_eqSlice ⟨_, _, rfl⟩ ?_)
  generalize w.alloc (.cells #[.int .i64 0, .int .i64 0] 50) = w0 at *
  obtain ⟨q4, hq4⟩ : ∃ q, q = w.heap.size := ⟨_, rfl⟩
  rw [← hq4] at o4 ⊢
  have hge : w.heap.size ≤ q4 := by omega
  clear hq4 hcp0
  go_loopw [1, 6, 7, 16] (fun v1 _ _ v16 wr => ∃ (k : Nat) (x : Int), k ≤ rows.length ∧ v16 = .int .i64 k ∧ v1 = .int .i64 x ∧ Chg No w0 wr ∧ R = findF (rows.drop k) x) (fun _ _ _ v16 _ => rows.length - (intOf v16).toNat)
  case atStart => exact ⟨0, pos, by omega, rfl, rfl, Chg.refl _ _, HR.out⟩
  case round =>
    obtain ⟨k, x, hk, rfl, rfl, hcr, hrr⟩ := hrel
    have Hrr := Lib.hid hrr
    clear hrr
    have hcw := hca.trans hcr
    have hcp := Hc.out _ hcw
    have o4r := hcr.obj o4 (not_no _)
    have z0 := cell_obj (i := 0) o4r rfl
    have z1 := cell_obj (i := 1) o4r rfl
    have f0 := free_obj (i := 0) o4r
    have f1 := free_obj (i := 1) o4r
    by_cases hkl : k < rows.length
    · obtain ⟨_, _, _, a0, -, -, -, a4, -⟩ := Hg.out k hkl wr hcw
      have Hcall := Lib.hid (fun W (hW : Chg No wr W) => Hm.out k hkl W (hcw.trans hW))
      have Hd := Lib.hid (Hrr.out.trans (Hfd.out k hkl x))
      clear Hrr
      generalize manyR rows[k] = mr at *
      generalize rows[k].2.2.2.2 = ov at *
      generalize rows[k].1 = tt at *
      cases ov with
      | false =>
        have Hd2 := Lib.hid (show R = some (tt, x) by rw [Hd.out, if_pos (.inl rfl)])
        clear Hd
        go_wp2_with (with_reducible first | refine stop_append ?_ | refine stop_copy ?_ | refine stop_make ?_ | refine stop_lookup ?_ | refine stop_update ?_ | refine stop_slice ?_ | refine stop_range ?_ | refine stop_next ?_ | refine stop_convert ⟨_, rfl⟩ ?_ | refine stop_convertB ⟨_, _, _, rfl⟩ ?_ | refine stop_eqSlice ⟨_, _, rfl⟩ ?_)
        refine bodyPost_ret (v := .tuple #[.agg #[.int .i64 tt, .int .i64 x], .int .i64 0]) (by simp [results, Try.results38, go_sem, *]) rfl ?_
        rw [Hd2.out]
        exact ⟨rfl, (hcw.setCell (.inr hge) _).setCell (.inr hge) _⟩
      | true =>
        by_cases hx : x < mr
        · have Hd2 := Lib.hid (show R = some (tt, x) by rw [Hd.out, if_pos (.inr hx)])
          clear Hd
          go_wp2_with (with_reducible first | refine stop_append ?_ | refine stop_copy ?_ | refine stop_make ?_ | refine stop_lookup ?_ | refine stop_update ?_ | refine stop_slice ?_ | refine stop_range ?_ | refine stop_next ?_ | refine stop_convert ⟨_, rfl⟩ ?_ | refine stop_convertB ⟨_, _, _, rfl⟩ ?_ | refine stop_eqSlice ⟨_, _, rfl⟩ ?_)
          refine (Hcall.out _ (Chg.refl _ _)).mono ?_
          rintro e w3 ⟨rfl, hc3⟩
          have o43 := hc3.obj o4r (not_no _)
          have hcw3 := hcw.trans hc3
          replace a0 := hc3.cell a0 (not_no _)
          clear z0 z1 f0 f1 a4
          have z0 := cell_obj (i := 0) o43 rfl
          have z1 := cell_obj (i := 1) o43 rfl
          have f0 := free_obj (i := 0) o43
          have f1 := free_obj (i := 1) o43
          go_wp2_with (with_reducible first | refine stop_append ?_ | refine stop_copy ?_ | refine stop_make ?_ | refine stop_lookup ?_ | refine stop_update ?_ | refine stop_slice ?_ | refine stop_range ?_ | refine stop_next ?_ | refine stop_convert ⟨_, rfl⟩ ?_ | refine stop_convertB ⟨_, _, _, rfl⟩ ?_ | refine stop_eqSlice ⟨_, _, rfl⟩ ?_)
          refine bodyPost_ret (v := .tuple #[.agg #[.int .i64 tt, .int .i64 x], .int .i64 0]) (by simp [results, Try.results38, go_sem, *]) rfl ?_
          rw [Hd2.out]
          exact ⟨rfl, (hcw3.setCell (.inr hge) _).setCell (.inr hge) _⟩
        · have Hd2 := Lib.hid (show R = findF (rows.drop (k + 1)) (wrap64 (x - mr)) by rw [Hd.out, if_neg (by simp; omega)])
          clear Hd
          go_wp2_with (with_reducible first | refine stop_append ?_ | refine stop_copy ?_ | refine stop_make ?_ | refine stop_lookup ?_ | refine stop_update ?_ | refine stop_slice ?_ | refine stop_range ?_ | refine stop_next ?_ | refine stop_convert ⟨_, rfl⟩ ?_ | refine stop_convertB ⟨_, _, _, rfl⟩ ?_ | refine stop_eqSlice ⟨_, _, rfl⟩ ?_)
          refine (Hcall.out _ (Chg.refl _ _)).mono ?_
          rintro e w3 ⟨rfl, hc3⟩
          go_wp2_with (with_reducible first | refine stop_append ?_ | refine stop_copy ?_ | refine stop_make ?_ | refine stop_lookup ?_ | refine stop_update ?_ | refine stop_slice ?_ | refine stop_range ?_ | refine stop_next ?_ | refine stop_convert ⟨_, rfl⟩ ?_ | refine stop_convertB ⟨_, _, _, rfl⟩ ?_ | refine stop_eqSlice ⟨_, _, rfl⟩ ?_)
          refine (Hcall.out _ hc3).mono ?_
          rintro e w5 ⟨rfl, hc5⟩
          go_wp2_with (with_reducible first | refine stop_append ?_ | refine stop_copy ?_ | refine stop_make ?_ | refine stop_lookup ?_ | refine stop_update ?_ | refine stop_slice ?_ | refine stop_range ?_ | refine stop_next ?_ | refine stop_convert ⟨_, rfl⟩ ?_ | refine stop_convertB ⟨_, _, _, rfl⟩ ?_ | refine stop_eqSlice ⟨_, _, rfl⟩ ?_)
          go_roundw
          case rel => exact ⟨k + 1, _, by omega, by go_num, rfl, (hcr.trans hc3).trans hc5, Hd2.out⟩
          case measure => simp [intOf]; omega
    · obtain rfl : k = rows.length := by omega
      have Hd2 := Lib.hid (show R = none by rw [Hrr.out, List.drop_length]; rfl)
      clear Hrr
      go_wp2_with (with_reducible first | refine stop_append ?_ | refine stop_copy ?_ | refine stop_make ?_ | refine stop_lookup ?_ | refine stop_update ?_ | refine stop_slice ?_ | refine stop_range ?_ | refine stop_next ?_ | refine stop_convert ⟨_, rfl⟩ ?_ | refine stop_convertB ⟨_, _, _, rfl⟩ ?_ | refine stop_eqSlice ⟨_, _, rfl⟩ ?_)
      refine bodyPost_ret (v := .tuple #[.agg #[.int .i64 0, .int .i64 0], .int .i64 1]) (by simp [results, Try.results38, go_sem, *]) rfl ?_
      rw [Hd2.out]
      exact ⟨rfl, (hcw.setCell (.inr hge) _).setCell (.inr hge) _⟩
end Go.Proofs.Ytbjpoamnglfjeaa


/- Walks of package register: what may not be a tail's entry. -/
set_option linter.unusedVariables false
set_option linter.unusedSimpArgs false
namespace Go.Proofs.Ytbjpoamnglfjeaa
open Go.RowKit Cb

/-- A cut of another number of shards than the term's; none: there is no term. -/
def badB (n : Option Nat) (e : Ent) : Bool := match n with | none => false | some n => decide (e.2.1 = 1) && !decide (e.2.2.1.length = n)
set_option maxRecDepth 100000 in
set_option maxHeartbeats 1000000 in
theorem fits1_none (bx : Nat) (e : Ent) (v : Value) (w : World) (hb : w.cell? ⟨bx, 0, none⟩ = some (.pointer none)) (hs : Sl No w v e.2.2.1) :
    Calls Try.prog 96 #[entV e v, .pointer (some ⟨bx, 0, none⟩)] w fun x w' => x = .returned (.bool (badB none e)) ∧ Chg No w w' := by
  obtain ⟨n, kd, cut, tag, t, p⟩ := e
  simp only at hs
  obtain ⟨Ax, cx, rfl⟩ := hs.slice
  clear hs
  unfold entV
  simp only [badB]
  have hca := (Chg.refl No w).alloc (.cells #[.int .i64 n, .int .i64 kd, .slice Ax cut.length cx, .int .i64 tag, .int .i64 t, .int .i64 p] 58)
  have hb1 := hca.cell hb (not_no _)
  go_enter Try.func96, Try.ntmps96
  go_wp2_with (with_reducible first | refine stop_append ?_ | refine stop_copy ?_ | refine stop_make ?_ | refine stop_lookup ?_ | refine stop_update ?_ | refine stop_slice ?_ | refine stop_range ?_ | refine stop_next ?_ | refine stop_convert ⟨_, rfl⟩ ?_ | refine stop_convertB ⟨_, _, _, rfl⟩ ?_ | refine stop_eqSlice ⟨_, _, rfl⟩ ?_)
  refine pl_start (fun W => W.cell? ⟨bx, 0, none⟩ = some (.pointer none) ∧ Chg No w W) (by kernel_rfl) (by kernel_rfl) ⟨hb1, hca.drew⟩ ?_
  ((refine pl_yes (i := 0) (oi := { dst := some 4, op := .load 139 (.tmp 1), type := 139, pos := "register.go:78", after := #[], guard := none }) (v := ?_) rfl (by kernel_rfl) (by kernel_rfl) rfl ?_ ?_); rotate_left; focus (intro W hW; (try dsimp only at hW); go_split_ands; go_simp; (try (simp (disch := omega) only [IntWalk.i64_in]; (try go_simp))); (try (split; (next => omega); (try go_simp))); try rfl; done))
  try simp only [Act.put, List.setIfInBounds_toArray, List.set_cons_zero, List.set_cons_succ]
  ((refine pl_yes (i := 1) (oi := { dst := some 5, op := .binOp .neq 139 (.tmp 4) (.const (.pointer none)) 139, type := 4, pos := "register.go:78", after := #[{ on := 0, ground := .data }], guard := none }) (v := ?_) rfl (by kernel_rfl) (by kernel_rfl) rfl ?_ ?_); rotate_left; focus (intro W hW; (try dsimp only at hW); go_split_ands; go_simp; (try (simp (disch := omega) only [IntWalk.i64_in]; (try go_simp))); (try (split; (next => omega); (try go_simp))); try rfl; done))
  try simp only [Act.put, List.setIfInBounds_toArray, List.set_cons_zero, List.set_cons_succ]
  ((refine pl_yes (i := 2) (oi := { dst := some 6, op := .move (.tmp 5), type := 4, pos := "register.go:78", after := #[{ on := 1, ground := .data }], guard := none }) (v := ?_) rfl (by kernel_rfl) (by kernel_rfl) rfl ?_ ?_); rotate_left; focus (intro W hW; (try dsimp only at hW); go_split_ands; go_simp; (try (simp (disch := omega) only [IntWalk.i64_in]; (try go_simp))); (try (split; (next => omega); (try go_simp))); try rfl; done))
  try simp only [Act.put, List.setIfInBounds_toArray, List.set_cons_zero, List.set_cons_succ]
  first | (refine pl_no (i := 3) (oi := { dst := some 7, op := .fieldAddr 58 (.tmp 2) 1, type := 0, pos := "register.go:78", after := #[{ on := 2, ground := .guard }], guard := some (2, true) }) rfl (by kernel_rfl) (by kernel_rfl) rfl ?_) | ((refine pl_yes (i := 3) (oi := { dst := some 7, op := .fieldAddr 58 (.tmp 2) 1, type := 0, pos := "register.go:78", after := #[{ on := 2, ground := .guard }], guard := some (2, true) }) (v := ?_) rfl (by kernel_rfl) (by kernel_rfl) rfl ?_ ?_); rotate_left; focus (intro W hW; (try dsimp only at hW); go_split_ands; go_simp; (try (simp (disch := omega) only [IntWalk.i64_in]; (try go_simp))); (try (split; (next => omega); (try go_simp))); try rfl; done))
  try simp only [Act.put, List.setIfInBounds_toArray, List.set_cons_zero, List.set_cons_succ]
  first | (refine pl_no (i := 4) (oi := { dst := some 8, op := .load 3 (.tmp 7), type := 3, pos := "register.go:78", after := #[{ on := 3, ground := .data }, { on := 2, ground := .guard }], guard := some (2, true) }) rfl (by kernel_rfl) (by kernel_rfl) rfl ?_) | ((refine pl_yes (i := 4) (oi := { dst := some 8, op := .load 3 (.tmp 7), type := 3, pos := "register.go:78", after := #[{ on := 3, ground := .data }, { on := 2, ground := .guard }], guard := some (2, true) }) (v := ?_) rfl (by kernel_rfl) (by kernel_rfl) rfl ?_ ?_); rotate_left; focus (intro W hW; (try dsimp only at hW); go_split_ands; go_simp; (try (simp (disch := omega) only [IntWalk.i64_in]; (try go_simp))); (try (split; (next => omega); (try go_simp))); try rfl; done))
  try simp only [Act.put, List.setIfInBounds_toArray, List.set_cons_zero, List.set_cons_succ]
  first | (refine pl_no (i := 5) (oi := { dst := some 9, op := .binOp .eql 3 (.tmp 8) (.const (.int .i64 1)) 3, type := 4, pos := "register.go:78", after := #[{ on := 4, ground := .data }, { on := 2, ground := .guard }], guard := some (2, true) }) rfl (by kernel_rfl) (by kernel_rfl) rfl ?_) | ((refine pl_yes (i := 5) (oi := { dst := some 9, op := .binOp .eql 3 (.tmp 8) (.const (.int .i64 1)) 3, type := 4, pos := "register.go:78", after := #[{ on := 4, ground := .data }, { on := 2, ground := .guard }], guard := some (2, true) }) (v := ?_) rfl (by kernel_rfl) (by kernel_rfl) rfl ?_ ?_); rotate_left; focus (intro W hW; (try dsimp only at hW); go_split_ands; go_simp; (try (simp (disch := omega) only [IntWalk.i64_in]; (try go_simp))); (try (split; (next => omega); (try go_simp))); try rfl; done))
  try simp only [Act.put, List.setIfInBounds_toArray, List.set_cons_zero, List.set_cons_succ]
  ((refine pl_yes (i := 6) (oi := { dst := some 10, op := .pick (.tmp 6) (.tmp 9) (.const (.bool false)), type := 4, pos := "register.go:78", after := #[{ on := 2, ground := .data }, { on := 5, ground := .data }], guard := none }) (v := ?_) rfl (by kernel_rfl) (by kernel_rfl) rfl ?_ ?_); rotate_left; focus (intro W hW; (try dsimp only at hW); go_split_ands; go_simp; (try (simp (disch := omega) only [IntWalk.i64_in]; (try go_simp))); (try (split; (next => omega); (try go_simp))); try rfl; done))
  try simp only [Act.put, List.setIfInBounds_toArray, List.set_cons_zero, List.set_cons_succ]
  ((refine pl_yes (i := 7) (oi := { dst := some 11, op := .move (.tmp 10), type := 4, pos := "register.go:78", after := #[{ on := 6, ground := .data }, { on := 2, ground := .chain }], guard := none }) (v := ?_) rfl (by kernel_rfl) (by kernel_rfl) rfl ?_ ?_); rotate_left; focus (intro W hW; (try dsimp only at hW); go_split_ands; go_simp; (try (simp (disch := omega) only [IntWalk.i64_in]; (try go_simp))); (try (split; (next => omega); (try go_simp))); try rfl; done))
  try simp only [Act.put, List.setIfInBounds_toArray, List.set_cons_zero, List.set_cons_succ]
  first | (refine pl_no (i := 8) (oi := { dst := some 12, op := .fieldAddr 58 (.tmp 2) 2, type := 0, pos := "register.go:78", after := #[{ on := 7, ground := .guard }], guard := some (7, true) }) rfl (by kernel_rfl) (by kernel_rfl) rfl ?_) | ((refine pl_yes (i := 8) (oi := { dst := some 12, op := .fieldAddr 58 (.tmp 2) 2, type := 0, pos := "register.go:78", after := #[{ on := 7, ground := .guard }], guard := some (7, true) }) (v := ?_) rfl (by kernel_rfl) (by kernel_rfl) rfl ?_ ?_); rotate_left; focus (intro W hW; (try dsimp only at hW); go_split_ands; go_simp; (try (simp (disch := omega) only [IntWalk.i64_in]; (try go_simp))); (try (split; (next => omega); (try go_simp))); try rfl; done))
  try simp only [Act.put, List.setIfInBounds_toArray, List.set_cons_zero, List.set_cons_succ]
  first | (refine pl_no (i := 9) (oi := { dst := some 13, op := .load 46 (.tmp 12), type := 46, pos := "register.go:78", after := #[{ on := 8, ground := .data }, { on := 7, ground := .guard }], guard := some (7, true) }) rfl (by kernel_rfl) (by kernel_rfl) rfl ?_) | ((refine pl_yes (i := 9) (oi := { dst := some 13, op := .load 46 (.tmp 12), type := 46, pos := "register.go:78", after := #[{ on := 8, ground := .data }, { on := 7, ground := .guard }], guard := some (7, true) }) (v := ?_) rfl (by kernel_rfl) (by kernel_rfl) rfl ?_ ?_); rotate_left; focus (intro W hW; (try dsimp only at hW); go_split_ands; go_simp; (try (simp (disch := omega) only [IntWalk.i64_in]; (try go_simp))); (try (split; (next => omega); (try go_simp))); try rfl; done))
  try simp only [Act.put, List.setIfInBounds_toArray, List.set_cons_zero, List.set_cons_succ]
  first | (refine pl_no (i := 10) (oi := { dst := some 14, op := .call { callee := .builtin .len, args := #[.tmp 13], argTypes := #[46] }, type := 3, pos := "register.go:78", after := #[{ on := 9, ground := .data }, { on := 7, ground := .guard }], guard := some (7, true) }) rfl (by kernel_rfl) (by kernel_rfl) rfl ?_) | ((refine pl_yes (i := 10) (oi := { dst := some 14, op := .call { callee := .builtin .len, args := #[.tmp 13], argTypes := #[46] }, type := 3, pos := "register.go:78", after := #[{ on := 9, ground := .data }, { on := 7, ground := .guard }], guard := some (7, true) }) (v := ?_) rfl (by kernel_rfl) (by kernel_rfl) rfl ?_ ?_); rotate_left; focus (intro W hW; (try dsimp only at hW); go_split_ands; go_simp; (try (simp (disch := omega) only [IntWalk.i64_in]; (try go_simp))); (try (split; (next => omega); (try go_simp))); try rfl; done))
  try simp only [Act.put, List.setIfInBounds_toArray, List.set_cons_zero, List.set_cons_succ]
  first | (refine pl_no (i := 11) (oi := { dst := some 15, op := .load 139 (.tmp 1), type := 139, pos := "register.go:78", after := #[{ on := 7, ground := .guard }], guard := some (7, true) }) rfl (by kernel_rfl) (by kernel_rfl) rfl ?_) | ((refine pl_yes (i := 11) (oi := { dst := some 15, op := .load 139 (.tmp 1), type := 139, pos := "register.go:78", after := #[{ on := 7, ground := .guard }], guard := some (7, true) }) (v := ?_) rfl (by kernel_rfl) (by kernel_rfl) rfl ?_ ?_); rotate_left; focus (intro W hW; (try dsimp only at hW); go_split_ands; go_simp; (try (simp (disch := omega) only [IntWalk.i64_in]; (try go_simp))); (try (split; (next => omega); (try go_simp))); try rfl; done))
  try simp only [Act.put, List.setIfInBounds_toArray, List.set_cons_zero, List.set_cons_succ]
  first | (refine pl_no (i := 12) (oi := { dst := some 16, op := .nilCheck (.tmp 15), type := 0, pos := "register.go:78", after := #[{ on := 11, ground := .data }, { on := 7, ground := .guard }], guard := some (7, true) }) rfl (by kernel_rfl) (by kernel_rfl) rfl ?_) | ((refine pl_yes (i := 12) (oi := { dst := some 16, op := .nilCheck (.tmp 15), type := 0, pos := "register.go:78", after := #[{ on := 11, ground := .data }, { on := 7, ground := .guard }], guard := some (7, true) }) (v := ?_) rfl (by kernel_rfl) (by kernel_rfl) rfl ?_ ?_); rotate_left; focus (intro W hW; (try dsimp only at hW); go_split_ands; go_simp; (try (simp (disch := omega) only [IntWalk.i64_in]; (try go_simp))); (try (split; (next => omega); (try go_simp))); try rfl; done))
  try simp only [Act.put, List.setIfInBounds_toArray, List.set_cons_zero, List.set_cons_succ]
  first | (refine pl_no (i := 13) (oi := { dst := some 17, op := .fieldAddr 88 (.tmp 16) 0, type := 0, pos := "register.go:78", after := #[{ on := 12, ground := .data }, { on := 7, ground := .guard }], guard := some (7, true) }) rfl (by kernel_rfl) (by kernel_rfl) rfl ?_) | ((refine pl_yes (i := 13) (oi := { dst := some 17, op := .fieldAddr 88 (.tmp 16) 0, type := 0, pos := "register.go:78", after := #[{ on := 12, ground := .data }, { on := 7, ground := .guard }], guard := some (7, true) }) (v := ?_) rfl (by kernel_rfl) (by kernel_rfl) rfl ?_ ?_); rotate_left; focus (intro W hW; (try dsimp only at hW); go_split_ands; go_simp; (try (simp (disch := omega) only [IntWalk.i64_in]; (try go_simp))); (try (split; (next => omega); (try go_simp))); try rfl; done))
  try simp only [Act.put, List.setIfInBounds_toArray, List.set_cons_zero, List.set_cons_succ]
  first | (refine pl_no (i := 14) (oi := { dst := some 18, op := .fieldAddr 68 (.tmp 17) 2, type := 0, pos := "register.go:78", after := #[{ on := 13, ground := .data }, { on := 7, ground := .guard }], guard := some (7, true) }) rfl (by kernel_rfl) (by kernel_rfl) rfl ?_) | ((refine pl_yes (i := 14) (oi := { dst := some 18, op := .fieldAddr 68 (.tmp 17) 2, type := 0, pos := "register.go:78", after := #[{ on := 13, ground := .data }, { on := 7, ground := .guard }], guard := some (7, true) }) (v := ?_) rfl (by kernel_rfl) (by kernel_rfl) rfl ?_ ?_); rotate_left; focus (intro W hW; (try dsimp only at hW); go_split_ands; go_simp; (try (simp (disch := omega) only [IntWalk.i64_in]; (try go_simp))); (try (split; (next => omega); (try go_simp))); try rfl; done))
  try simp only [Act.put, List.setIfInBounds_toArray, List.set_cons_zero, List.set_cons_succ]
  first | (refine pl_no (i := 15) (oi := { dst := some 19, op := .load 61 (.tmp 18), type := 61, pos := "register.go:78", after := #[{ on := 14, ground := .data }, { on := 7, ground := .guard }], guard := some (7, true) }) rfl (by kernel_rfl) (by kernel_rfl) rfl ?_) | ((refine pl_yes (i := 15) (oi := { dst := some 19, op := .load 61 (.tmp 18), type := 61, pos := "register.go:78", after := #[{ on := 14, ground := .data }, { on := 7, ground := .guard }], guard := some (7, true) }) (v := ?_) rfl (by kernel_rfl) (by kernel_rfl) rfl ?_ ?_); rotate_left; focus (intro W hW; (try dsimp only at hW); go_split_ands; go_simp; (try (simp (disch := omega) only [IntWalk.i64_in]; (try go_simp))); (try (split; (next => omega); (try go_simp))); try rfl; done))
  try simp only [Act.put, List.setIfInBounds_toArray, List.set_cons_zero, List.set_cons_succ]
  first | (refine pl_no (i := 16) (oi := { dst := some 20, op := .call { callee := .builtin .len, args := #[.tmp 19], argTypes := #[61] }, type := 3, pos := "register.go:78", after := #[{ on := 15, ground := .data }, { on := 7, ground := .guard }], guard := some (7, true) }) rfl (by kernel_rfl) (by kernel_rfl) rfl ?_) | ((refine pl_yes (i := 16) (oi := { dst := some 20, op := .call { callee := .builtin .len, args := #[.tmp 19], argTypes := #[61] }, type := 3, pos := "register.go:78", after := #[{ on := 15, ground := .data }, { on := 7, ground := .guard }], guard := some (7, true) }) (v := ?_) rfl (by kernel_rfl) (by kernel_rfl) rfl ?_ ?_); rotate_left; focus (intro W hW; (try dsimp only at hW); go_split_ands; go_simp; (try (simp (disch := omega) only [IntWalk.i64_in]; (try go_simp))); (try (split; (next => omega); (try go_simp))); try rfl; done))
  try simp only [Act.put, List.setIfInBounds_toArray, List.set_cons_zero, List.set_cons_succ]
  first | (refine pl_no (i := 17) (oi := { dst := some 21, op := .binOp .neq 3 (.tmp 14) (.tmp 20) 3, type := 4, pos := "register.go:78", after := #[{ on := 10, ground := .data }, { on := 16, ground := .data }, { on := 7, ground := .guard }], guard := some (7, true) }) rfl (by kernel_rfl) (by kernel_rfl) rfl ?_) | ((refine pl_yes (i := 17) (oi := { dst := some 21, op := .binOp .neq 3 (.tmp 14) (.tmp 20) 3, type := 4, pos := "register.go:78", after := #[{ on := 10, ground := .data }, { on := 16, ground := .data }, { on := 7, ground := .guard }], guard := some (7, true) }) (v := ?_) rfl (by kernel_rfl) (by kernel_rfl) rfl ?_ ?_); rotate_left; focus (intro W hW; (try dsimp only at hW); go_split_ands; go_simp; (try (simp (disch := omega) only [IntWalk.i64_in]; (try go_simp))); (try (split; (next => omega); (try go_simp))); try rfl; done))
  try simp only [Act.put, List.setIfInBounds_toArray, List.set_cons_zero, List.set_cons_succ]
  ((refine pl_yes (i := 18) (oi := { dst := some 22, op := .pick (.tmp 11) (.tmp 21) (.const (.bool false)), type := 4, pos := "register.go:78", after := #[{ on := 7, ground := .data }, { on := 17, ground := .data }], guard := none }) (v := ?_) rfl (by kernel_rfl) (by kernel_rfl) rfl ?_ ?_); rotate_left; focus (intro W hW; (try dsimp only at hW); go_split_ands; go_simp; (try (simp (disch := omega) only [IntWalk.i64_in]; (try go_simp))); (try (split; (next => omega); (try go_simp))); try rfl; done))
  try simp only [Act.put, List.setIfInBounds_toArray, List.set_cons_zero, List.set_cons_succ]
  ((refine pl_yes (i := 19) (oi := { dst := some 3, op := .assign (.tmp 22), type := 4, pos := "register.go:78", after := #[{ on := 18, ground := .data }, { on := 7, ground := .chain }, { on := 0, ground := .phase }, { on := 1, ground := .phase }, { on := 2, ground := .phase }, { on := 3, ground := .phase }, { on := 4, ground := .phase }, { on := 5, ground := .phase }, { on := 6, ground := .phase }, { on := 7, ground := .phase }, { on := 8, ground := .phase }, { on := 9, ground := .phase }, { on := 10, ground := .phase }, { on := 11, ground := .phase }, { on := 12, ground := .phase }, { on := 13, ground := .phase }, { on := 14, ground := .phase }, { on := 15, ground := .phase }, { on := 16, ground := .phase }, { on := 17, ground := .phase }, { on := 18, ground := .phase }], guard := none }) (v := ?_) rfl (by kernel_rfl) (by kernel_rfl) rfl ?_ ?_); rotate_left; focus (intro W hW; (try dsimp only at hW); go_split_ands; go_simp; (try (simp (disch := omega) only [IntWalk.i64_in]; (try go_simp))); (try (split; (next => omega); (try go_simp))); try rfl; done))
  try simp only [Act.put, List.setIfInBounds_toArray, List.set_cons_zero, List.set_cons_succ]
  refine pl_done (by kernel_rfl)  ?_
  rintro w2 ⟨_, hc2⟩
  go_wp2_with (with_reducible first | refine stop_append ?_ | refine stop_copy ?_ | refine stop_make ?_ | refine stop_lookup ?_ | refine stop_update ?_ | refine stop_slice ?_ | refine stop_range ?_ | refine stop_next ?_ | refine stop_convert ⟨_, rfl⟩ ?_ | refine stop_convertB ⟨_, _, _, rfl⟩ ?_ | refine stop_eqSlice ⟨_, _, rfl⟩ ?_)
  go_ret
  exact ⟨rfl, hc2⟩
set_option maxRecDepth 100000 in
set_option maxHeartbeats 1000000 in
theorem fits1_some (bx g o ns cs : Nat) (As : Option Addr) (e : Ent) (v : Value) (w : World) (hb : w.cell? ⟨bx, 0, none⟩ = some (.pointer (some ⟨g, o, none⟩))) (hsh : w.cell? ⟨g, o + 2, none⟩ = some (.slice As ns cs)) (hs : Sl No w v e.2.2.1) :
    Calls Try.prog 96 #[entV e v, .pointer (some ⟨bx, 0, none⟩)] w fun x w' => x = .returned (.bool (badB (some ns) e)) ∧ Chg No w w' := by
  obtain ⟨n, kd, cut, tag, t, p⟩ := e
  simp only at hs
  obtain ⟨Ax, cx, rfl⟩ := hs.slice
  clear hs
  unfold entV
  simp only [badB]
  have hca := (Chg.refl No w).alloc (.cells #[.int .i64 n, .int .i64 kd, .slice Ax cut.length cx, .int .i64 tag, .int .i64 t, .int .i64 p] 58)
  have o1 := alloc_obj w (.cells #[.int .i64 n, .int .i64 kd, .slice Ax cut.length cx, .int .i64 tag, .int .i64 t, .int .i64 p] 58)
  have hb1 := hca.cell hb (not_no _)
  have hs1 := hca.cell hsh (not_no _)
  have g1 := cell_obj (i := 1) o1 rfl
  have g2 := cell_obj (i := 2) o1 rfl
  clear o1 hb hsh
  by_cases hk : kd = 1
  · subst hk
    by_cases hl : cut.length = ns
    · subst hl
      go_enter Try.func96, Try.ntmps96
      go_wp2_with (with_reducible first | refine stop_append ?_ | refine stop_copy ?_ | refine stop_make ?_ | refine stop_lookup ?_ | refine stop_update ?_ | refine stop_slice ?_ | refine stop_range ?_ | refine stop_next ?_ | refine stop_convert ⟨_, rfl⟩ ?_ | refine stop_convertB ⟨_, _, _, rfl⟩ ?_ | refine stop_eqSlice ⟨_, _, rfl⟩ ?_)
      generalize w.alloc (.cells #[.int .i64 n, .int .i64 1, .slice Ax cut.length cx, .int .i64 tag, .int .i64 t, .int .i64 p] 58) = w0 at *
      generalize w.heap.size = q at *
      refine pl_start (fun W => W.cell? ⟨bx, 0, none⟩ = some (.pointer (some ⟨g, o, none⟩)) ∧ W.cell? ⟨g, o + 2, none⟩ = some (.slice As cut.length cs) ∧ W.cell? ⟨q, 1, none⟩ = some (.int .i64 1) ∧ W.cell? ⟨q, 2, none⟩ = some (.slice Ax cut.length cx) ∧ Chg No w W) (by kernel_rfl) (by kernel_rfl) ⟨hb1, hs1, g1, g2, hca.drew⟩ ?_
      ((refine pl_yes (i := 0) (oi := { dst := some 4, op := .load 139 (.tmp 1), type := 139, pos := "register.go:78", after := #[], guard := none }) (v := ?_) rfl (by kernel_rfl) (by kernel_rfl) rfl ?_ ?_); rotate_left; focus (intro W hW; (try dsimp only at hW); go_split_ands; go_simp; (try (simp (disch := omega) only [IntWalk.i64_in]; (try go_simp))); (try (split; (next => omega); (try go_simp))); try rfl; done))
      try simp only [Act.put, List.setIfInBounds_toArray, List.set_cons_zero, List.set_cons_succ]
      ((refine pl_yes (i := 1) (oi := { dst := some 5, op := .binOp .neq 139 (.tmp 4) (.const (.pointer none)) 139, type := 4, pos := "register.go:78", after := #[{ on := 0, ground := .data }], guard := none }) (v := ?_) rfl (by kernel_rfl) (by kernel_rfl) rfl ?_ ?_); rotate_left; focus (intro W hW; (try dsimp only at hW); go_split_ands; go_simp; (try (simp (disch := omega) only [IntWalk.i64_in]; (try go_simp))); (try (split; (next => omega); (try go_simp))); try rfl; done))
      try simp only [Act.put, List.setIfInBounds_toArray, List.set_cons_zero, List.set_cons_succ]
      ((refine pl_yes (i := 2) (oi := { dst := some 6, op := .move (.tmp 5), type := 4, pos := "register.go:78", after := #[{ on := 1, ground := .data }], guard := none }) (v := ?_) rfl (by kernel_rfl) (by kernel_rfl) rfl ?_ ?_); rotate_left; focus (intro W hW; (try dsimp only at hW); go_split_ands; go_simp; (try (simp (disch := omega) only [IntWalk.i64_in]; (try go_simp))); (try (split; (next => omega); (try go_simp))); try rfl; done))
      try simp only [Act.put, List.setIfInBounds_toArray, List.set_cons_zero, List.set_cons_succ]
      first | (refine pl_no (i := 3) (oi := { dst := some 7, op := .fieldAddr 58 (.tmp 2) 1, type := 0, pos := "register.go:78", after := #[{ on := 2, ground := .guard }], guard := some (2, true) }) rfl (by kernel_rfl) (by kernel_rfl) rfl ?_) | ((refine pl_yes (i := 3) (oi := { dst := some 7, op := .fieldAddr 58 (.tmp 2) 1, type := 0, pos := "register.go:78", after := #[{ on := 2, ground := .guard }], guard := some (2, true) }) (v := ?_) rfl (by kernel_rfl) (by kernel_rfl) rfl ?_ ?_); rotate_left; focus (intro W hW; (try dsimp only at hW); go_split_ands; go_simp; (try (simp (disch := omega) only [IntWalk.i64_in]; (try go_simp))); (try (split; (next => omega); (try go_simp))); try rfl; done))
      try simp only [Act.put, List.setIfInBounds_toArray, List.set_cons_zero, List.set_cons_succ]
      first | (refine pl_no (i := 4) (oi := { dst := some 8, op := .load 3 (.tmp 7), type := 3, pos := "register.go:78", after := #[{ on := 3, ground := .data }, { on := 2, ground := .guard }], guard := some (2, true) }) rfl (by kernel_rfl) (by kernel_rfl) rfl ?_) | ((refine pl_yes (i := 4) (oi := { dst := some 8, op := .load 3 (.tmp 7), type := 3, pos := "register.go:78", after := #[{ on := 3, ground := .data }, { on := 2, ground := .guard }], guard := some (2, true) }) (v := ?_) rfl (by kernel_rfl) (by kernel_rfl) rfl ?_ ?_); rotate_left; focus (intro W hW; (try dsimp only at hW); go_split_ands; go_simp; (try (simp (disch := omega) only [IntWalk.i64_in]; (try go_simp))); (try (split; (next => omega); (try go_simp))); try rfl; done))
      try simp only [Act.put, List.setIfInBounds_toArray, List.set_cons_zero, List.set_cons_succ]
      first | (refine pl_no (i := 5) (oi := { dst := some 9, op := .binOp .eql 3 (.tmp 8) (.const (.int .i64 1)) 3, type := 4, pos := "register.go:78", after := #[{ on := 4, ground := .data }, { on := 2, ground := .guard }], guard := some (2, true) }) rfl (by kernel_rfl) (by kernel_rfl) rfl ?_) | ((refine pl_yes (i := 5) (oi := { dst := some 9, op := .binOp .eql 3 (.tmp 8) (.const (.int .i64 1)) 3, type := 4, pos := "register.go:78", after := #[{ on := 4, ground := .data }, { on := 2, ground := .guard }], guard := some (2, true) }) (v := ?_) rfl (by kernel_rfl) (by kernel_rfl) rfl ?_ ?_); rotate_left; focus (intro W hW; (try dsimp only at hW); go_split_ands; go_simp; (try (simp (disch := omega) only [IntWalk.i64_in]; (try go_simp))); (try (split; (next => omega); (try go_simp))); try rfl; done))
      try simp only [Act.put, List.setIfInBounds_toArray, List.set_cons_zero, List.set_cons_succ]
      ((refine pl_yes (i := 6) (oi := { dst := some 10, op := .pick (.tmp 6) (.tmp 9) (.const (.bool false)), type := 4, pos := "register.go:78", after := #[{ on := 2, ground := .data }, { on := 5, ground := .data }], guard := none }) (v := ?_) rfl (by kernel_rfl) (by kernel_rfl) rfl ?_ ?_); rotate_left; focus (intro W hW; (try dsimp only at hW); go_split_ands; go_simp; (try (simp (disch := omega) only [IntWalk.i64_in]; (try go_simp))); (try (split; (next => omega); (try go_simp))); try rfl; done))
      try simp only [Act.put, List.setIfInBounds_toArray, List.set_cons_zero, List.set_cons_succ]
      ((refine pl_yes (i := 7) (oi := { dst := some 11, op := .move (.tmp 10), type := 4, pos := "register.go:78", after := #[{ on := 6, ground := .data }, { on := 2, ground := .chain }], guard := none }) (v := ?_) rfl (by kernel_rfl) (by kernel_rfl) rfl ?_ ?_); rotate_left; focus (intro W hW; (try dsimp only at hW); go_split_ands; go_simp; (try (simp (disch := omega) only [IntWalk.i64_in]; (try go_simp))); (try (split; (next => omega); (try go_simp))); try rfl; done))
      try simp only [Act.put, List.setIfInBounds_toArray, List.set_cons_zero, List.set_cons_succ]
      first | (refine pl_no (i := 8) (oi := { dst := some 12, op := .fieldAddr 58 (.tmp 2) 2, type := 0, pos := "register.go:78", after := #[{ on := 7, ground := .guard }], guard := some (7, true) }) rfl (by kernel_rfl) (by kernel_rfl) rfl ?_) | ((refine pl_yes (i := 8) (oi := { dst := some 12, op := .fieldAddr 58 (.tmp 2) 2, type := 0, pos := "register.go:78", after := #[{ on := 7, ground := .guard }], guard := some (7, true) }) (v := ?_) rfl (by kernel_rfl) (by kernel_rfl) rfl ?_ ?_); rotate_left; focus (intro W hW; (try dsimp only at hW); go_split_ands; go_simp; (try (simp (disch := omega) only [IntWalk.i64_in]; (try go_simp))); (try (split; (next => omega); (try go_simp))); try rfl; done))
      try simp only [Act.put, List.setIfInBounds_toArray, List.set_cons_zero, List.set_cons_succ]
      first | (refine pl_no (i := 9) (oi := { dst := some 13, op := .load 46 (.tmp 12), type := 46, pos := "register.go:78", after := #[{ on := 8, ground := .data }, { on := 7, ground := .guard }], guard := some (7, true) }) rfl (by kernel_rfl) (by kernel_rfl) rfl ?_) | ((refine pl_yes (i := 9) (oi := { dst := some 13, op := .load 46 (.tmp 12), type := 46, pos := "register.go:78", after := #[{ on := 8, ground := .data }, { on := 7, ground := .guard }], guard := some (7, true) }) (v := ?_) rfl (by kernel_rfl) (by kernel_rfl) rfl ?_ ?_); rotate_left; focus (intro W hW; (try dsimp only at hW); go_split_ands; go_simp; (try (simp (disch := omega) only [IntWalk.i64_in]; (try go_simp))); (try (split; (next => omega); (try go_simp))); try rfl; done))
      try simp only [Act.put, List.setIfInBounds_toArray, List.set_cons_zero, List.set_cons_succ]
      first | (refine pl_no (i := 10) (oi := { dst := some 14, op := .call { callee := .builtin .len, args := #[.tmp 13], argTypes := #[46] }, type := 3, pos := "register.go:78", after := #[{ on := 9, ground := .data }, { on := 7, ground := .guard }], guard := some (7, true) }) rfl (by kernel_rfl) (by kernel_rfl) rfl ?_) | ((refine pl_yes (i := 10) (oi := { dst := some 14, op := .call { callee := .builtin .len, args := #[.tmp 13], argTypes := #[46] }, type := 3, pos := "register.go:78", after := #[{ on := 9, ground := .data }, { on := 7, ground := .guard }], guard := some (7, true) }) (v := ?_) rfl (by kernel_rfl) (by kernel_rfl) rfl ?_ ?_); rotate_left; focus (intro W hW; (try dsimp only at hW); go_split_ands; go_simp; (try (simp (disch := omega) only [IntWalk.i64_in]; (try go_simp))); (try (split; (next => omega); (try go_simp))); try rfl; done))
      try simp only [Act.put, List.setIfInBounds_toArray, List.set_cons_zero, List.set_cons_succ]
      first | (refine pl_no (i := 11) (oi := { dst := some 15, op := .load 139 (.tmp 1), type := 139, pos := "register.go:78", after := #[{ on := 7, ground := .guard }], guard := some (7, true) }) rfl (by kernel_rfl) (by kernel_rfl) rfl ?_) | ((refine pl_yes (i := 11) (oi := { dst := some 15, op := .load 139 (.tmp 1), type := 139, pos := "register.go:78", after := #[{ on := 7, ground := .guard }], guard := some (7, true) }) (v := ?_) rfl (by kernel_rfl) (by kernel_rfl) rfl ?_ ?_); rotate_left; focus (intro W hW; (try dsimp only at hW); go_split_ands; go_simp; (try (simp (disch := omega) only [IntWalk.i64_in]; (try go_simp))); (try (split; (next => omega); (try go_simp))); try rfl; done))
      try simp only [Act.put, List.setIfInBounds_toArray, List.set_cons_zero, List.set_cons_succ]
      first | (refine pl_no (i := 12) (oi := { dst := some 16, op := .nilCheck (.tmp 15), type := 0, pos := "register.go:78", after := #[{ on := 11, ground := .data }, { on := 7, ground := .guard }], guard := some (7, true) }) rfl (by kernel_rfl) (by kernel_rfl) rfl ?_) | ((refine pl_yes (i := 12) (oi := { dst := some 16, op := .nilCheck (.tmp 15), type := 0, pos := "register.go:78", after := #[{ on := 11, ground := .data }, { on := 7, ground := .guard }], guard := some (7, true) }) (v := ?_) rfl (by kernel_rfl) (by kernel_rfl) rfl ?_ ?_); rotate_left; focus (intro W hW; (try dsimp only at hW); go_split_ands; go_simp; (try (simp (disch := omega) only [IntWalk.i64_in]; (try go_simp))); (try (split; (next => omega); (try go_simp))); try rfl; done))
      try simp only [Act.put, List.setIfInBounds_toArray, List.set_cons_zero, List.set_cons_succ]
      first | (refine pl_no (i := 13) (oi := { dst := some 17, op := .fieldAddr 88 (.tmp 16) 0, type := 0, pos := "register.go:78", after := #[{ on := 12, ground := .data }, { on := 7, ground := .guard }], guard := some (7, true) }) rfl (by kernel_rfl) (by kernel_rfl) rfl ?_) | ((refine pl_yes (i := 13) (oi := { dst := some 17, op := .fieldAddr 88 (.tmp 16) 0, type := 0, pos := "register.go:78", after := #[{ on := 12, ground := .data }, { on := 7, ground := .guard }], guard := some (7, true) }) (v := ?_) rfl (by kernel_rfl) (by kernel_rfl) rfl ?_ ?_); rotate_left; focus (intro W hW; (try dsimp only at hW); go_split_ands; go_simp; (try (simp (disch := omega) only [IntWalk.i64_in]; (try go_simp))); (try (split; (next => omega); (try go_simp))); try rfl; done))
      try simp only [Act.put, List.setIfInBounds_toArray, List.set_cons_zero, List.set_cons_succ]
      first | (refine pl_no (i := 14) (oi := { dst := some 18, op := .fieldAddr 68 (.tmp 17) 2, type := 0, pos := "register.go:78", after := #[{ on := 13, ground := .data }, { on := 7, ground := .guard }], guard := some (7, true) }) rfl (by kernel_rfl) (by kernel_rfl) rfl ?_) | ((refine pl_yes (i := 14) (oi := { dst := some 18, op := .fieldAddr 68 (.tmp 17) 2, type := 0, pos := "register.go:78", after := #[{ on := 13, ground := .data }, { on := 7, ground := .guard }], guard := some (7, true) }) (v := ?_) rfl (by kernel_rfl) (by kernel_rfl) rfl ?_ ?_); rotate_left; focus (intro W hW; (try dsimp only at hW); go_split_ands; go_simp; (try (simp (disch := omega) only [IntWalk.i64_in]; (try go_simp))); (try (split; (next => omega); (try go_simp))); try rfl; done))
      try simp only [Act.put, List.setIfInBounds_toArray, List.set_cons_zero, List.set_cons_succ]
      first | (refine pl_no (i := 15) (oi := { dst := some 19, op := .load 61 (.tmp 18), type := 61, pos := "register.go:78", after := #[{ on := 14, ground := .data }, { on := 7, ground := .guard }], guard := some (7, true) }) rfl (by kernel_rfl) (by kernel_rfl) rfl ?_) | ((refine pl_yes (i := 15) (oi := { dst := some 19, op := .load 61 (.tmp 18), type := 61, pos := "register.go:78", after := #[{ on := 14, ground := .data }, { on := 7, ground := .guard }], guard := some (7, true) }) (v := ?_) rfl (by kernel_rfl) (by kernel_rfl) rfl ?_ ?_); rotate_left; focus (intro W hW; (try dsimp only at hW); go_split_ands; go_simp; (try (simp (disch := omega) only [IntWalk.i64_in]; (try go_simp))); (try (split; (next => omega); (try go_simp))); try rfl; done))
      try simp only [Act.put, List.setIfInBounds_toArray, List.set_cons_zero, List.set_cons_succ]
      first | (refine pl_no (i := 16) (oi := { dst := some 20, op := .call { callee := .builtin .len, args := #[.tmp 19], argTypes := #[61] }, type := 3, pos := "register.go:78", after := #[{ on := 15, ground := .data }, { on := 7, ground := .guard }], guard := some (7, true) }) rfl (by kernel_rfl) (by kernel_rfl) rfl ?_) | ((refine pl_yes (i := 16) (oi := { dst := some 20, op := .call { callee := .builtin .len, args := #[.tmp 19], argTypes := #[61] }, type := 3, pos := "register.go:78", after := #[{ on := 15, ground := .data }, { on := 7, ground := .guard }], guard := some (7, true) }) (v := ?_) rfl (by kernel_rfl) (by kernel_rfl) rfl ?_ ?_); rotate_left; focus (intro W hW; (try dsimp only at hW); go_split_ands; go_simp; (try (simp (disch := omega) only [IntWalk.i64_in]; (try go_simp))); (try (split; (next => omega); (try go_simp))); try rfl; done))
      try simp only [Act.put, List.setIfInBounds_toArray, List.set_cons_zero, List.set_cons_succ]
      first | (refine pl_no (i := 17) (oi := { dst := some 21, op := .binOp .neq 3 (.tmp 14) (.tmp 20) 3, type := 4, pos := "register.go:78", after := #[{ on := 10, ground := .data }, { on := 16, ground := .data }, { on := 7, ground := .guard }], guard := some (7, true) }) rfl (by kernel_rfl) (by kernel_rfl) rfl ?_) | ((refine pl_yes (i := 17) (oi := { dst := some 21, op := .binOp .neq 3 (.tmp 14) (.tmp 20) 3, type := 4, pos := "register.go:78", after := #[{ on := 10, ground := .data }, { on := 16, ground := .data }, { on := 7, ground := .guard }], guard := some (7, true) }) (v := ?_) rfl (by kernel_rfl) (by kernel_rfl) rfl ?_ ?_); rotate_left; focus (intro W hW; (try dsimp only at hW); go_split_ands; go_simp; (try (simp (disch := omega) only [IntWalk.i64_in]; (try go_simp))); (try (split; (next => omega); (try go_simp))); try rfl; done))
      try simp only [Act.put, List.setIfInBounds_toArray, List.set_cons_zero, List.set_cons_succ]
      ((refine pl_yes (i := 18) (oi := { dst := some 22, op := .pick (.tmp 11) (.tmp 21) (.const (.bool false)), type := 4, pos := "register.go:78", after := #[{ on := 7, ground := .data }, { on := 17, ground := .data }], guard := none }) (v := ?_) rfl (by kernel_rfl) (by kernel_rfl) rfl ?_ ?_); rotate_left; focus (intro W hW; (try dsimp only at hW); go_split_ands; go_simp; (try (simp (disch := omega) only [IntWalk.i64_in]; (try go_simp))); (try (split; (next => omega); (try go_simp))); try rfl; done))
      try simp only [Act.put, List.setIfInBounds_toArray, List.set_cons_zero, List.set_cons_succ]
      ((refine pl_yes (i := 19) (oi := { dst := some 3, op := .assign (.tmp 22), type := 4, pos := "register.go:78", after := #[{ on := 18, ground := .data }, { on := 7, ground := .chain }, { on := 0, ground := .phase }, { on := 1, ground := .phase }, { on := 2, ground := .phase }, { on := 3, ground := .phase }, { on := 4, ground := .phase }, { on := 5, ground := .phase }, { on := 6, ground := .phase }, { on := 7, ground := .phase }, { on := 8, ground := .phase }, { on := 9, ground := .phase }, { on := 10, ground := .phase }, { on := 11, ground := .phase }, { on := 12, ground := .phase }, { on := 13, ground := .phase }, { on := 14, ground := .phase }, { on := 15, ground := .phase }, { on := 16, ground := .phase }, { on := 17, ground := .phase }, { on := 18, ground := .phase }], guard := none }) (v := ?_) rfl (by kernel_rfl) (by kernel_rfl) rfl ?_ ?_); rotate_left; focus (intro W hW; (try dsimp only at hW); go_split_ands; go_simp; (try (simp (disch := omega) only [IntWalk.i64_in]; (try go_simp))); (try (split; (next => omega); (try go_simp))); try rfl; done))
      try simp only [Act.put, List.setIfInBounds_toArray, List.set_cons_zero, List.set_cons_succ]
      refine pl_done (by kernel_rfl)  ?_
      rintro w2 ⟨_, _, _, _, hc2⟩
      go_wp2_with (with_reducible first | refine stop_append ?_ | refine stop_copy ?_ | refine stop_make ?_ | refine stop_lookup ?_ | refine stop_update ?_ | refine stop_slice ?_ | refine stop_range ?_ | refine stop_next ?_ | refine stop_convert ⟨_, rfl⟩ ?_ | refine stop_convertB ⟨_, _, _, rfl⟩ ?_ | refine stop_eqSlice ⟨_, _, rfl⟩ ?_)
      go_ret
      exact ⟨by simp, hc2⟩
    · have l1 : ((cut.length : Int) != ns) = true := by simp; omega
      have l2 : ((cut.length : Int) == ns) = false := by simp; omega
      have l3 : (cut.length != ns) = true := by simpa using hl
      have l4 : (cut.length == ns) = false := by simpa using hl
      go_enter Try.func96, Try.ntmps96
      go_wp2_with (with_reducible first | refine stop_append ?_ | refine stop_copy ?_ | refine stop_make ?_ | refine stop_lookup ?_ | refine stop_update ?_ | refine stop_slice ?_ | refine stop_range ?_ | refine stop_next ?_ | refine stop_convert ⟨_, rfl⟩ ?_ | refine stop_convertB ⟨_, _, _, rfl⟩ ?_ | refine stop_eqSlice ⟨_, _, rfl⟩ ?_)
      generalize w.alloc (.cells #[.int .i64 n, .int .i64 1, .slice Ax cut.length cx, .int .i64 tag, .int .i64 t, .int .i64 p] 58) = w0 at *
      generalize w.heap.size = q at *
      refine pl_start (fun W => W.cell? ⟨bx, 0, none⟩ = some (.pointer (some ⟨g, o, none⟩)) ∧ W.cell? ⟨g, o + 2, none⟩ = some (.slice As ns cs) ∧ W.cell? ⟨q, 1, none⟩ = some (.int .i64 1) ∧ W.cell? ⟨q, 2, none⟩ = some (.slice Ax cut.length cx) ∧ Chg No w W) (by kernel_rfl) (by kernel_rfl) ⟨hb1, hs1, g1, g2, hca.drew⟩ ?_
      ((refine pl_yes (i := 0) (oi := { dst := some 4, op := .load 139 (.tmp 1), type := 139, pos := "register.go:78", after := #[], guard := none }) (v := ?_) rfl (by kernel_rfl) (by kernel_rfl) rfl ?_ ?_); rotate_left; focus (intro W hW; (try dsimp only at hW); go_split_ands; go_simp; (try (simp (disch := omega) only [IntWalk.i64_in]; (try go_simp))); (try (split; (next => omega); (try go_simp))); try rfl; done))
      try simp only [Act.put, List.setIfInBounds_toArray, List.set_cons_zero, List.set_cons_succ]
      ((refine pl_yes (i := 1) (oi := { dst := some 5, op := .binOp .neq 139 (.tmp 4) (.const (.pointer none)) 139, type := 4, pos := "register.go:78", after := #[{ on := 0, ground := .data }], guard := none }) (v := ?_) rfl (by kernel_rfl) (by kernel_rfl) rfl ?_ ?_); rotate_left; focus (intro W hW; (try dsimp only at hW); go_split_ands; go_simp; (try (simp (disch := omega) only [IntWalk.i64_in]; (try go_simp))); (try (split; (next => omega); (try go_simp))); try rfl; done))
      try simp only [Act.put, List.setIfInBounds_toArray, List.set_cons_zero, List.set_cons_succ]
      ((refine pl_yes (i := 2) (oi := { dst := some 6, op := .move (.tmp 5), type := 4, pos := "register.go:78", after := #[{ on := 1, ground := .data }], guard := none }) (v := ?_) rfl (by kernel_rfl) (by kernel_rfl) rfl ?_ ?_); rotate_left; focus (intro W hW; (try dsimp only at hW); go_split_ands; go_simp; (try (simp (disch := omega) only [IntWalk.i64_in]; (try go_simp))); (try (split; (next => omega); (try go_simp))); try rfl; done))
      try simp only [Act.put, List.setIfInBounds_toArray, List.set_cons_zero, List.set_cons_succ]
      first | (refine pl_no (i := 3) (oi := { dst := some 7, op := .fieldAddr 58 (.tmp 2) 1, type := 0, pos := "register.go:78", after := #[{ on := 2, ground := .guard }], guard := some (2, true) }) rfl (by kernel_rfl) (by kernel_rfl) rfl ?_) | ((refine pl_yes (i := 3) (oi := { dst := some 7, op := .fieldAddr 58 (.tmp 2) 1, type := 0, pos := "register.go:78", after := #[{ on := 2, ground := .guard }], guard := some (2, true) }) (v := ?_) rfl (by kernel_rfl) (by kernel_rfl) rfl ?_ ?_); rotate_left; focus (intro W hW; (try dsimp only at hW); go_split_ands; go_simp; (try (simp (disch := omega) only [IntWalk.i64_in]; (try go_simp))); (try (split; (next => omega); (try go_simp))); try rfl; done))
      try simp only [Act.put, List.setIfInBounds_toArray, List.set_cons_zero, List.set_cons_succ]
      first | (refine pl_no (i := 4) (oi := { dst := some 8, op := .load 3 (.tmp 7), type := 3, pos := "register.go:78", after := #[{ on := 3, ground := .data }, { on := 2, ground := .guard }], guard := some (2, true) }) rfl (by kernel_rfl) (by kernel_rfl) rfl ?_) | ((refine pl_yes (i := 4) (oi := { dst := some 8, op := .load 3 (.tmp 7), type := 3, pos := "register.go:78", after := #[{ on := 3, ground := .data }, { on := 2, ground := .guard }], guard := some (2, true) }) (v := ?_) rfl (by kernel_rfl) (by kernel_rfl) rfl ?_ ?_); rotate_left; focus (intro W hW; (try dsimp only at hW); go_split_ands; go_simp; (try (simp (disch := omega) only [IntWalk.i64_in]; (try go_simp))); (try (split; (next => omega); (try go_simp))); try rfl; done))
      try simp only [Act.put, List.setIfInBounds_toArray, List.set_cons_zero, List.set_cons_succ]
      first | (refine pl_no (i := 5) (oi := { dst := some 9, op := .binOp .eql 3 (.tmp 8) (.const (.int .i64 1)) 3, type := 4, pos := "register.go:78", after := #[{ on := 4, ground := .data }, { on := 2, ground := .guard }], guard := some (2, true) }) rfl (by kernel_rfl) (by kernel_rfl) rfl ?_) | ((refine pl_yes (i := 5) (oi := { dst := some 9, op := .binOp .eql 3 (.tmp 8) (.const (.int .i64 1)) 3, type := 4, pos := "register.go:78", after := #[{ on := 4, ground := .data }, { on := 2, ground := .guard }], guard := some (2, true) }) (v := ?_) rfl (by kernel_rfl) (by kernel_rfl) rfl ?_ ?_); rotate_left; focus (intro W hW; (try dsimp only at hW); go_split_ands; go_simp; (try (simp (disch := omega) only [IntWalk.i64_in]; (try go_simp))); (try (split; (next => omega); (try go_simp))); try rfl; done))
      try simp only [Act.put, List.setIfInBounds_toArray, List.set_cons_zero, List.set_cons_succ]
      ((refine pl_yes (i := 6) (oi := { dst := some 10, op := .pick (.tmp 6) (.tmp 9) (.const (.bool false)), type := 4, pos := "register.go:78", after := #[{ on := 2, ground := .data }, { on := 5, ground := .data }], guard := none }) (v := ?_) rfl (by kernel_rfl) (by kernel_rfl) rfl ?_ ?_); rotate_left; focus (intro W hW; (try dsimp only at hW); go_split_ands; go_simp; (try (simp (disch := omega) only [IntWalk.i64_in]; (try go_simp))); (try (split; (next => omega); (try go_simp))); try rfl; done))
      try simp only [Act.put, List.setIfInBounds_toArray, List.set_cons_zero, List.set_cons_succ]
      ((refine pl_yes (i := 7) (oi := { dst := some 11, op := .move (.tmp 10), type := 4, pos := "register.go:78", after := #[{ on := 6, ground := .data }, { on := 2, ground := .chain }], guard := none }) (v := ?_) rfl (by kernel_rfl) (by kernel_rfl) rfl ?_ ?_); rotate_left; focus (intro W hW; (try dsimp only at hW); go_split_ands; go_simp; (try (simp (disch := omega) only [IntWalk.i64_in]; (try go_simp))); (try (split; (next => omega); (try go_simp))); try rfl; done))
      try simp only [Act.put, List.setIfInBounds_toArray, List.set_cons_zero, List.set_cons_succ]
      first | (refine pl_no (i := 8) (oi := { dst := some 12, op := .fieldAddr 58 (.tmp 2) 2, type := 0, pos := "register.go:78", after := #[{ on := 7, ground := .guard }], guard := some (7, true) }) rfl (by kernel_rfl) (by kernel_rfl) rfl ?_) | ((refine pl_yes (i := 8) (oi := { dst := some 12, op := .fieldAddr 58 (.tmp 2) 2, type := 0, pos := "register.go:78", after := #[{ on := 7, ground := .guard }], guard := some (7, true) }) (v := ?_) rfl (by kernel_rfl) (by kernel_rfl) rfl ?_ ?_); rotate_left; focus (intro W hW; (try dsimp only at hW); go_split_ands; go_simp; (try (simp (disch := omega) only [IntWalk.i64_in]; (try go_simp))); (try (split; (next => omega); (try go_simp))); try rfl; done))
      try simp only [Act.put, List.setIfInBounds_toArray, List.set_cons_zero, List.set_cons_succ]
      first | (refine pl_no (i := 9) (oi := { dst := some 13, op := .load 46 (.tmp 12), type := 46, pos := "register.go:78", after := #[{ on := 8, ground := .data }, { on := 7, ground := .guard }], guard := some (7, true) }) rfl (by kernel_rfl) (by kernel_rfl) rfl ?_) | ((refine pl_yes (i := 9) (oi := { dst := some 13, op := .load 46 (.tmp 12), type := 46, pos := "register.go:78", after := #[{ on := 8, ground := .data }, { on := 7, ground := .guard }], guard := some (7, true) }) (v := ?_) rfl (by kernel_rfl) (by kernel_rfl) rfl ?_ ?_); rotate_left; focus (intro W hW; (try dsimp only at hW); go_split_ands; go_simp; (try (simp (disch := omega) only [IntWalk.i64_in]; (try go_simp))); (try (split; (next => omega); (try go_simp))); try rfl; done))
      try simp only [Act.put, List.setIfInBounds_toArray, List.set_cons_zero, List.set_cons_succ]
      first | (refine pl_no (i := 10) (oi := { dst := some 14, op := .call { callee := .builtin .len, args := #[.tmp 13], argTypes := #[46] }, type := 3, pos := "register.go:78", after := #[{ on := 9, ground := .data }, { on := 7, ground := .guard }], guard := some (7, true) }) rfl (by kernel_rfl) (by kernel_rfl) rfl ?_) | ((refine pl_yes (i := 10) (oi := { dst := some 14, op := .call { callee := .builtin .len, args := #[.tmp 13], argTypes := #[46] }, type := 3, pos := "register.go:78", after := #[{ on := 9, ground := .data }, { on := 7, ground := .guard }], guard := some (7, true) }) (v := ?_) rfl (by kernel_rfl) (by kernel_rfl) rfl ?_ ?_); rotate_left; focus (intro W hW; (try dsimp only at hW); go_split_ands; go_simp; (try (simp (disch := omega) only [IntWalk.i64_in]; (try go_simp))); (try (split; (next => omega); (try go_simp))); try rfl; done))
      try simp only [Act.put, List.setIfInBounds_toArray, List.set_cons_zero, List.set_cons_succ]
      first | (refine pl_no (i := 11) (oi := { dst := some 15, op := .load 139 (.tmp 1), type := 139, pos := "register.go:78", after := #[{ on := 7, ground := .guard }], guard := some (7, true) }) rfl (by kernel_rfl) (by kernel_rfl) rfl ?_) | ((refine pl_yes (i := 11) (oi := { dst := some 15, op := .load 139 (.tmp 1), type := 139, pos := "register.go:78", after := #[{ on := 7, ground := .guard }], guard := some (7, true) }) (v := ?_) rfl (by kernel_rfl) (by kernel_rfl) rfl ?_ ?_); rotate_left; focus (intro W hW; (try dsimp only at hW); go_split_ands; go_simp; (try (simp (disch := omega) only [IntWalk.i64_in]; (try go_simp))); (try (split; (next => omega); (try go_simp))); try rfl; done))
      try simp only [Act.put, List.setIfInBounds_toArray, List.set_cons_zero, List.set_cons_succ]
      first | (refine pl_no (i := 12) (oi := { dst := some 16, op := .nilCheck (.tmp 15), type := 0, pos := "register.go:78", after := #[{ on := 11, ground := .data }, { on := 7, ground := .guard }], guard := some (7, true) }) rfl (by kernel_rfl) (by kernel_rfl) rfl ?_) | ((refine pl_yes (i := 12) (oi := { dst := some 16, op := .nilCheck (.tmp 15), type := 0, pos := "register.go:78", after := #[{ on := 11, ground := .data }, { on := 7, ground := .guard }], guard := some (7, true) }) (v := ?_) rfl (by kernel_rfl) (by kernel_rfl) rfl ?_ ?_); rotate_left; focus (intro W hW; (try dsimp only at hW); go_split_ands; go_simp; (try (simp (disch := omega) only [IntWalk.i64_in]; (try go_simp))); (try (split; (next => omega); (try go_simp))); try rfl; done))
      try simp only [Act.put, List.setIfInBounds_toArray, List.set_cons_zero, List.set_cons_succ]
      first | (refine pl_no (i := 13) (oi := { dst := some 17, op := .fieldAddr 88 (.tmp 16) 0, type := 0, pos := "register.go:78", after := #[{ on := 12, ground := .data }, { on := 7, ground := .guard }], guard := some (7, true) }) rfl (by kernel_rfl) (by kernel_rfl) rfl ?_) | ((refine pl_yes (i := 13) (oi := { dst := some 17, op := .fieldAddr 88 (.tmp 16) 0, type := 0, pos := "register.go:78", after := #[{ on := 12, ground := .data }, { on := 7, ground := .guard }], guard := some (7, true) }) (v := ?_) rfl (by kernel_rfl) (by kernel_rfl) rfl ?_ ?_); rotate_left; focus (intro W hW; (try dsimp only at hW); go_split_ands; go_simp; (try (simp (disch := omega) only [IntWalk.i64_in]; (try go_simp))); (try (split; (next => omega); (try go_simp))); try rfl; done))
      try simp only [Act.put, List.setIfInBounds_toArray, List.set_cons_zero, List.set_cons_succ]
      first | (refine pl_no (i := 14) (oi := { dst := some 18, op := .fieldAddr 68 (.tmp 17) 2, type := 0, pos := "register.go:78", after := #[{ on := 13, ground := .data }, { on := 7, ground := .guard }], guard := some (7, true) }) rfl (by kernel_rfl) (by kernel_rfl) rfl ?_) | ((refine pl_yes (i := 14) (oi := { dst := some 18, op := .fieldAddr 68 (.tmp 17) 2, type := 0, pos := "register.go:78", after := #[{ on := 13, ground := .data }, { on := 7, ground := .guard }], guard := some (7, true) }) (v := ?_) rfl (by kernel_rfl) (by kernel_rfl) rfl ?_ ?_); rotate_left; focus (intro W hW; (try dsimp only at hW); go_split_ands; go_simp; (try (simp (disch := omega) only [IntWalk.i64_in]; (try go_simp))); (try (split; (next => omega); (try go_simp))); try rfl; done))
      try simp only [Act.put, List.setIfInBounds_toArray, List.set_cons_zero, List.set_cons_succ]
      first | (refine pl_no (i := 15) (oi := { dst := some 19, op := .load 61 (.tmp 18), type := 61, pos := "register.go:78", after := #[{ on := 14, ground := .data }, { on := 7, ground := .guard }], guard := some (7, true) }) rfl (by kernel_rfl) (by kernel_rfl) rfl ?_) | ((refine pl_yes (i := 15) (oi := { dst := some 19, op := .load 61 (.tmp 18), type := 61, pos := "register.go:78", after := #[{ on := 14, ground := .data }, { on := 7, ground := .guard }], guard := some (7, true) }) (v := ?_) rfl (by kernel_rfl) (by kernel_rfl) rfl ?_ ?_); rotate_left; focus (intro W hW; (try dsimp only at hW); go_split_ands; go_simp; (try (simp (disch := omega) only [IntWalk.i64_in]; (try go_simp))); (try (split; (next => omega); (try go_simp))); try rfl; done))
      try simp only [Act.put, List.setIfInBounds_toArray, List.set_cons_zero, List.set_cons_succ]
      first | (refine pl_no (i := 16) (oi := { dst := some 20, op := .call { callee := .builtin .len, args := #[.tmp 19], argTypes := #[61] }, type := 3, pos := "register.go:78", after := #[{ on := 15, ground := .data }, { on := 7, ground := .guard }], guard := some (7, true) }) rfl (by kernel_rfl) (by kernel_rfl) rfl ?_) | ((refine pl_yes (i := 16) (oi := { dst := some 20, op := .call { callee := .builtin .len, args := #[.tmp 19], argTypes := #[61] }, type := 3, pos := "register.go:78", after := #[{ on := 15, ground := .data }, { on := 7, ground := .guard }], guard := some (7, true) }) (v := ?_) rfl (by kernel_rfl) (by kernel_rfl) rfl ?_ ?_); rotate_left; focus (intro W hW; (try dsimp only at hW); go_split_ands; go_simp; (try (simp (disch := omega) only [IntWalk.i64_in]; (try go_simp))); (try (split; (next => omega); (try go_simp))); try rfl; done))
      try simp only [Act.put, List.setIfInBounds_toArray, List.set_cons_zero, List.set_cons_succ]
      first | (refine pl_no (i := 17) (oi := { dst := some 21, op := .binOp .neq 3 (.tmp 14) (.tmp 20) 3, type := 4, pos := "register.go:78", after := #[{ on := 10, ground := .data }, { on := 16, ground := .data }, { on := 7, ground := .guard }], guard := some (7, true) }) rfl (by kernel_rfl) (by kernel_rfl) rfl ?_) | ((refine pl_yes (i := 17) (oi := { dst := some 21, op := .binOp .neq 3 (.tmp 14) (.tmp 20) 3, type := 4, pos := "register.go:78", after := #[{ on := 10, ground := .data }, { on := 16, ground := .data }, { on := 7, ground := .guard }], guard := some (7, true) }) (v := ?_) rfl (by kernel_rfl) (by kernel_rfl) rfl ?_ ?_); rotate_left; focus (intro W hW; (try dsimp only at hW); go_split_ands; go_simp; (try (simp (disch := omega) only [IntWalk.i64_in]; (try go_simp))); (try (split; (next => omega); (try go_simp))); try rfl; done))
      try simp only [Act.put, List.setIfInBounds_toArray, List.set_cons_zero, List.set_cons_succ]
      ((refine pl_yes (i := 18) (oi := { dst := some 22, op := .pick (.tmp 11) (.tmp 21) (.const (.bool false)), type := 4, pos := "register.go:78", after := #[{ on := 7, ground := .data }, { on := 17, ground := .data }], guard := none }) (v := ?_) rfl (by kernel_rfl) (by kernel_rfl) rfl ?_ ?_); rotate_left; focus (intro W hW; (try dsimp only at hW); go_split_ands; go_simp; (try (simp (disch := omega) only [IntWalk.i64_in]; (try go_simp))); (try (split; (next => omega); (try go_simp))); try rfl; done))
      try simp only [Act.put, List.setIfInBounds_toArray, List.set_cons_zero, List.set_cons_succ]
      ((refine pl_yes (i := 19) (oi := { dst := some 3, op := .assign (.tmp 22), type := 4, pos := "register.go:78", after := #[{ on := 18, ground := .data }, { on := 7, ground := .chain }, { on := 0, ground := .phase }, { on := 1, ground := .phase }, { on := 2, ground := .phase }, { on := 3, ground := .phase }, { on := 4, ground := .phase }, { on := 5, ground := .phase }, { on := 6, ground := .phase }, { on := 7, ground := .phase }, { on := 8, ground := .phase }, { on := 9, ground := .phase }, { on := 10, ground := .phase }, { on := 11, ground := .phase }, { on := 12, ground := .phase }, { on := 13, ground := .phase }, { on := 14, ground := .phase }, { on := 15, ground := .phase }, { on := 16, ground := .phase }, { on := 17, ground := .phase }, { on := 18, ground := .phase }], guard := none }) (v := ?_) rfl (by kernel_rfl) (by kernel_rfl) rfl ?_ ?_); rotate_left; focus (intro W hW; (try dsimp only at hW); go_split_ands; go_simp; (try (simp (disch := omega) only [IntWalk.i64_in]; (try go_simp))); (try (split; (next => omega); (try go_simp))); try rfl; done))
      try simp only [Act.put, List.setIfInBounds_toArray, List.set_cons_zero, List.set_cons_succ]
      refine pl_done (by kernel_rfl)  ?_
      rintro w2 ⟨_, _, _, _, hc2⟩
      go_wp2_with (with_reducible first | refine stop_append ?_ | refine stop_copy ?_ | refine stop_make ?_ | refine stop_lookup ?_ | refine stop_update ?_ | refine stop_slice ?_ | refine stop_range ?_ | refine stop_next ?_ | refine stop_convert ⟨_, rfl⟩ ?_ | refine stop_convertB ⟨_, _, _, rfl⟩ ?_ | refine stop_eqSlice ⟨_, _, rfl⟩ ?_)
      go_ret
      exact ⟨by simp [hl], hc2⟩
  · have k1 : (kd == 1) = false := by simpa using hk
    rw [decide_eq_false hk, Bool.false_and]
    clear hk
    go_enter Try.func96, Try.ntmps96
    go_wp2_with (with_reducible first | refine stop_append ?_ | refine stop_copy ?_ | refine stop_make ?_ | refine stop_lookup ?_ | refine stop_update ?_ | refine stop_slice ?_ | refine stop_range ?_ | refine stop_next ?_ | refine stop_convert ⟨_, rfl⟩ ?_ | refine stop_convertB ⟨_, _, _, rfl⟩ ?_ | refine stop_eqSlice ⟨_, _, rfl⟩ ?_)
    generalize w.alloc (.cells #[.int .i64 n, .int .i64 kd, .slice Ax cut.length cx, .int .i64 tag, .int .i64 t, .int .i64 p] 58) = w0 at *
    generalize w.heap.size = q at *
    refine pl_start (fun W => W.cell? ⟨bx, 0, none⟩ = some (.pointer (some ⟨g, o, none⟩)) ∧ W.cell? ⟨g, o + 2, none⟩ = some (.slice As ns cs) ∧ W.cell? ⟨q, 1, none⟩ = some (.int .i64 kd) ∧ W.cell? ⟨q, 2, none⟩ = some (.slice Ax cut.length cx) ∧ Chg No w W) (by kernel_rfl) (by kernel_rfl) ⟨hb1, hs1, g1, g2, hca.drew⟩ ?_
    ((refine pl_yes (i := 0) (oi := { dst := some 4, op := .load 139 (.tmp 1), type := 139, pos := "register.go:78", after := #[], guard := none }) (v := ?_) rfl (by kernel_rfl) (by kernel_rfl) rfl ?_ ?_); rotate_left; focus (intro W hW; (try dsimp only at hW); go_split_ands; go_simp; (try (simp (disch := omega) only [IntWalk.i64_in]; (try go_simp))); (try (split; (next => omega); (try go_simp))); try rfl; done))
    try simp only [Act.put, List.setIfInBounds_toArray, List.set_cons_zero, List.set_cons_succ]
    ((refine pl_yes (i := 1) (oi := { dst := some 5, op := .binOp .neq 139 (.tmp 4) (.const (.pointer none)) 139, type := 4, pos := "register.go:78", after := #[{ on := 0, ground := .data }], guard := none }) (v := ?_) rfl (by kernel_rfl) (by kernel_rfl) rfl ?_ ?_); rotate_left; focus (intro W hW; (try dsimp only at hW); go_split_ands; go_simp; (try (simp (disch := omega) only [IntWalk.i64_in]; (try go_simp))); (try (split; (next => omega); (try go_simp))); try rfl; done))
    try simp only [Act.put, List.setIfInBounds_toArray, List.set_cons_zero, List.set_cons_succ]
    ((refine pl_yes (i := 2) (oi := { dst := some 6, op := .move (.tmp 5), type := 4, pos := "register.go:78", after := #[{ on := 1, ground := .data }], guard := none }) (v := ?_) rfl (by kernel_rfl) (by kernel_rfl) rfl ?_ ?_); rotate_left; focus (intro W hW; (try dsimp only at hW); go_split_ands; go_simp; (try (simp (disch := omega) only [IntWalk.i64_in]; (try go_simp))); (try (split; (next => omega); (try go_simp))); try rfl; done))
    try simp only [Act.put, List.setIfInBounds_toArray, List.set_cons_zero, List.set_cons_succ]
    first | (refine pl_no (i := 3) (oi := { dst := some 7, op := .fieldAddr 58 (.tmp 2) 1, type := 0, pos := "register.go:78", after := #[{ on := 2, ground := .guard }], guard := some (2, true) }) rfl (by kernel_rfl) (by kernel_rfl) rfl ?_) | ((refine pl_yes (i := 3) (oi := { dst := some 7, op := .fieldAddr 58 (.tmp 2) 1, type := 0, pos := "register.go:78", after := #[{ on := 2, ground := .guard }], guard := some (2, true) }) (v := ?_) rfl (by kernel_rfl) (by kernel_rfl) rfl ?_ ?_); rotate_left; focus (intro W hW; (try dsimp only at hW); go_split_ands; go_simp; (try (simp (disch := omega) only [IntWalk.i64_in]; (try go_simp))); (try (split; (next => omega); (try go_simp))); try rfl; done))
    try simp only [Act.put, List.setIfInBounds_toArray, List.set_cons_zero, List.set_cons_succ]
    first | (refine pl_no (i := 4) (oi := { dst := some 8, op := .load 3 (.tmp 7), type := 3, pos := "register.go:78", after := #[{ on := 3, ground := .data }, { on := 2, ground := .guard }], guard := some (2, true) }) rfl (by kernel_rfl) (by kernel_rfl) rfl ?_) | ((refine pl_yes (i := 4) (oi := { dst := some 8, op := .load 3 (.tmp 7), type := 3, pos := "register.go:78", after := #[{ on := 3, ground := .data }, { on := 2, ground := .guard }], guard := some (2, true) }) (v := ?_) rfl (by kernel_rfl) (by kernel_rfl) rfl ?_ ?_); rotate_left; focus (intro W hW; (try dsimp only at hW); go_split_ands; go_simp; (try (simp (disch := omega) only [IntWalk.i64_in]; (try go_simp))); (try (split; (next => omega); (try go_simp))); try rfl; done))
    try simp only [Act.put, List.setIfInBounds_toArray, List.set_cons_zero, List.set_cons_succ]
    first | (refine pl_no (i := 5) (oi := { dst := some 9, op := .binOp .eql 3 (.tmp 8) (.const (.int .i64 1)) 3, type := 4, pos := "register.go:78", after := #[{ on := 4, ground := .data }, { on := 2, ground := .guard }], guard := some (2, true) }) rfl (by kernel_rfl) (by kernel_rfl) rfl ?_) | ((refine pl_yes (i := 5) (oi := { dst := some 9, op := .binOp .eql 3 (.tmp 8) (.const (.int .i64 1)) 3, type := 4, pos := "register.go:78", after := #[{ on := 4, ground := .data }, { on := 2, ground := .guard }], guard := some (2, true) }) (v := ?_) rfl (by kernel_rfl) (by kernel_rfl) rfl ?_ ?_); rotate_left; focus (intro W hW; (try dsimp only at hW); go_split_ands; go_simp; (try (simp (disch := omega) only [IntWalk.i64_in]; (try go_simp))); (try (split; (next => omega); (try go_simp))); try rfl; done))
    try simp only [Act.put, List.setIfInBounds_toArray, List.set_cons_zero, List.set_cons_succ]
    ((refine pl_yes (i := 6) (oi := { dst := some 10, op := .pick (.tmp 6) (.tmp 9) (.const (.bool false)), type := 4, pos := "register.go:78", after := #[{ on := 2, ground := .data }, { on := 5, ground := .data }], guard := none }) (v := ?_) rfl (by kernel_rfl) (by kernel_rfl) rfl ?_ ?_); rotate_left; focus (intro W hW; (try dsimp only at hW); go_split_ands; go_simp; (try (simp (disch := omega) only [IntWalk.i64_in]; (try go_simp))); (try (split; (next => omega); (try go_simp))); try rfl; done))
    try simp only [Act.put, List.setIfInBounds_toArray, List.set_cons_zero, List.set_cons_succ]
    ((refine pl_yes (i := 7) (oi := { dst := some 11, op := .move (.tmp 10), type := 4, pos := "register.go:78", after := #[{ on := 6, ground := .data }, { on := 2, ground := .chain }], guard := none }) (v := ?_) rfl (by kernel_rfl) (by kernel_rfl) rfl ?_ ?_); rotate_left; focus (intro W hW; (try dsimp only at hW); go_split_ands; go_simp; (try (simp (disch := omega) only [IntWalk.i64_in]; (try go_simp))); (try (split; (next => omega); (try go_simp))); try rfl; done))
    try simp only [Act.put, List.setIfInBounds_toArray, List.set_cons_zero, List.set_cons_succ]
    first | (refine pl_no (i := 8) (oi := { dst := some 12, op := .fieldAddr 58 (.tmp 2) 2, type := 0, pos := "register.go:78", after := #[{ on := 7, ground := .guard }], guard := some (7, true) }) rfl (by kernel_rfl) (by kernel_rfl) rfl ?_) | ((refine pl_yes (i := 8) (oi := { dst := some 12, op := .fieldAddr 58 (.tmp 2) 2, type := 0, pos := "register.go:78", after := #[{ on := 7, ground := .guard }], guard := some (7, true) }) (v := ?_) rfl (by kernel_rfl) (by kernel_rfl) rfl ?_ ?_); rotate_left; focus (intro W hW; (try dsimp only at hW); go_split_ands; go_simp; (try (simp (disch := omega) only [IntWalk.i64_in]; (try go_simp))); (try (split; (next => omega); (try go_simp))); try rfl; done))
    try simp only [Act.put, List.setIfInBounds_toArray, List.set_cons_zero, List.set_cons_succ]
    first | (refine pl_no (i := 9) (oi := { dst := some 13, op := .load 46 (.tmp 12), type := 46, pos := "register.go:78", after := #[{ on := 8, ground := .data }, { on := 7, ground := .guard }], guard := some (7, true) }) rfl (by kernel_rfl) (by kernel_rfl) rfl ?_) | ((refine pl_yes (i := 9) (oi := { dst := some 13, op := .load 46 (.tmp 12), type := 46, pos := "register.go:78", after := #[{ on := 8, ground := .data }, { on := 7, ground := .guard }], guard := some (7, true) }) (v := ?_) rfl (by kernel_rfl) (by kernel_rfl) rfl ?_ ?_); rotate_left; focus (intro W hW; (try dsimp only at hW); go_split_ands; go_simp; (try (simp (disch := omega) only [IntWalk.i64_in]; (try go_simp))); (try (split; (next => omega); (try go_simp))); try rfl; done))
    try simp only [Act.put, List.setIfInBounds_toArray, List.set_cons_zero, List.set_cons_succ]
    first | (refine pl_no (i := 10) (oi := { dst := some 14, op := .call { callee := .builtin .len, args := #[.tmp 13], argTypes := #[46] }, type := 3, pos := "register.go:78", after := #[{ on := 9, ground := .data }, { on := 7, ground := .guard }], guard := some (7, true) }) rfl (by kernel_rfl) (by kernel_rfl) rfl ?_) | ((refine pl_yes (i := 10) (oi := { dst := some 14, op := .call { callee := .builtin .len, args := #[.tmp 13], argTypes := #[46] }, type := 3, pos := "register.go:78", after := #[{ on := 9, ground := .data }, { on := 7, ground := .guard }], guard := some (7, true) }) (v := ?_) rfl (by kernel_rfl) (by kernel_rfl) rfl ?_ ?_); rotate_left; focus (intro W hW; (try dsimp only at hW); go_split_ands; go_simp; (try (simp (disch := omega) only [IntWalk.i64_in]; (try go_simp))); (try (split; (next => omega); (try go_simp))); try rfl; done))
    try simp only [Act.put, List.setIfInBounds_toArray, List.set_cons_zero, List.set_cons_succ]
    first | (refine pl_no (i := 11) (oi := { dst := some 15, op := .load 139 (.tmp 1), type := 139, pos := "register.go:78", after := #[{ on := 7, ground := .guard }], guard := some (7, true) }) rfl (by kernel_rfl) (by kernel_rfl) rfl ?_) | ((refine pl_yes (i := 11) (oi := { dst := some 15, op := .load 139 (.tmp 1), type := 139, pos := "register.go:78", after := #[{ on := 7, ground := .guard }], guard := some (7, true) }) (v := ?_) rfl (by kernel_rfl) (by kernel_rfl) rfl ?_ ?_); rotate_left; focus (intro W hW; (try dsimp only at hW); go_split_ands; go_simp; (try (simp (disch := omega) only [IntWalk.i64_in]; (try go_simp))); (try (split; (next => omega); (try go_simp))); try rfl; done))
    try simp only [Act.put, List.setIfInBounds_toArray, List.set_cons_zero, List.set_cons_succ]
    first | (refine pl_no (i := 12) (oi := { dst := some 16, op := .nilCheck (.tmp 15), type := 0, pos := "register.go:78", after := #[{ on := 11, ground := .data }, { on := 7, ground := .guard }], guard := some (7, true) }) rfl (by kernel_rfl) (by kernel_rfl) rfl ?_) | ((refine pl_yes (i := 12) (oi := { dst := some 16, op := .nilCheck (.tmp 15), type := 0, pos := "register.go:78", after := #[{ on := 11, ground := .data }, { on := 7, ground := .guard }], guard := some (7, true) }) (v := ?_) rfl (by kernel_rfl) (by kernel_rfl) rfl ?_ ?_); rotate_left; focus (intro W hW; (try dsimp only at hW); go_split_ands; go_simp; (try (simp (disch := omega) only [IntWalk.i64_in]; (try go_simp))); (try (split; (next => omega); (try go_simp))); try rfl; done))
    try simp only [Act.put, List.setIfInBounds_toArray, List.set_cons_zero, List.set_cons_succ]
    first | (refine pl_no (i := 13) (oi := { dst := some 17, op := .fieldAddr 88 (.tmp 16) 0, type := 0, pos := "register.go:78", after := #[{ on := 12, ground := .data }, { on := 7, ground := .guard }], guard := some (7, true) }) rfl (by kernel_rfl) (by kernel_rfl) rfl ?_) | ((refine pl_yes (i := 13) (oi := { dst := some 17, op := .fieldAddr 88 (.tmp 16) 0, type := 0, pos := "register.go:78", after := #[{ on := 12, ground := .data }, { on := 7, ground := .guard }], guard := some (7, true) }) (v := ?_) rfl (by kernel_rfl) (by kernel_rfl) rfl ?_ ?_); rotate_left; focus (intro W hW; (try dsimp only at hW); go_split_ands; go_simp; (try (simp (disch := omega) only [IntWalk.i64_in]; (try go_simp))); (try (split; (next => omega); (try go_simp))); try rfl; done))
    try simp only [Act.put, List.setIfInBounds_toArray, List.set_cons_zero, List.set_cons_succ]
    first | (refine pl_no (i := 14) (oi := { dst := some 18, op := .fieldAddr 68 (.tmp 17) 2, type := 0, pos := "register.go:78", after := #[{ on := 13, ground := .data }, { on := 7, ground := .guard }], guard := some (7, true) }) rfl (by kernel_rfl) (by kernel_rfl) rfl ?_) | ((refine pl_yes (i := 14) (oi := { dst := some 18, op := .fieldAddr 68 (.tmp 17) 2, type := 0, pos := "register.go:78", after := #[{ on := 13, ground := .data }, { on := 7, ground := .guard }], guard := some (7, true) }) (v := ?_) rfl (by kernel_rfl) (by kernel_rfl) rfl ?_ ?_); rotate_left; focus (intro W hW; (try dsimp only at hW); go_split_ands; go_simp; (try (simp (disch := omega) only [IntWalk.i64_in]; (try go_simp))); (try (split; (next => omega); (try go_simp))); try rfl; done))
    try simp only [Act.put, List.setIfInBounds_toArray, List.set_cons_zero, List.set_cons_succ]
    first | (refine pl_no (i := 15) (oi := { dst := some 19, op := .load 61 (.tmp 18), type := 61, pos := "register.go:78", after := #[{ on := 14, ground := .data }, { on := 7, ground := .guard }], guard := some (7, true) }) rfl (by kernel_rfl) (by kernel_rfl) rfl ?_) | ((refine pl_yes (i := 15) (oi := { dst := some 19, op := .load 61 (.tmp 18), type := 61, pos := "register.go:78", after := #[{ on := 14, ground := .data }, { on := 7, ground := .guard }], guard := some (7, true) }) (v := ?_) rfl (by kernel_rfl) (by kernel_rfl) rfl ?_ ?_); rotate_left; focus (intro W hW; (try dsimp only at hW); go_split_ands; go_simp; (try (simp (disch := omega) only [IntWalk.i64_in]; (try go_simp))); (try (split; (next => omega); (try go_simp))); try rfl; done))
    try simp only [Act.put, List.setIfInBounds_toArray, List.set_cons_zero, List.set_cons_succ]
    first | (refine pl_no (i := 16) (oi := { dst := some 20, op := .call { callee := .builtin .len, args := #[.tmp 19], argTypes := #[61] }, type := 3, pos := "register.go:78", after := #[{ on := 15, ground := .data }, { on := 7, ground := .guard }], guard := some (7, true) }) rfl (by kernel_rfl) (by kernel_rfl) rfl ?_) | ((refine pl_yes (i := 16) (oi := { dst := some 20, op := .call { callee := .builtin .len, args := #[.tmp 19], argTypes := #[61] }, type := 3, pos := "register.go:78", after := #[{ on := 15, ground := .data }, { on := 7, ground := .guard }], guard := some (7, true) }) (v := ?_) rfl (by kernel_rfl) (by kernel_rfl) rfl ?_ ?_); rotate_left; focus (intro W hW; (try dsimp only at hW); go_split_ands; go_simp; (try (simp (disch := omega) only [IntWalk.i64_in]; (try go_simp))); (try (split; (next => omega); (try go_simp))); try rfl; done))
    try simp only [Act.put, List.setIfInBounds_toArray, List.set_cons_zero, List.set_cons_succ]
    first | (refine pl_no (i := 17) (oi := { dst := some 21, op := .binOp .neq 3 (.tmp 14) (.tmp 20) 3, type := 4, pos := "register.go:78", after := #[{ on := 10, ground := .data }, { on := 16, ground := .data }, { on := 7, ground := .guard }], guard := some (7, true) }) rfl (by kernel_rfl) (by kernel_rfl) rfl ?_) | ((refine pl_yes (i := 17) (oi := { dst := some 21, op := .binOp .neq 3 (.tmp 14) (.tmp 20) 3, type := 4, pos := "register.go:78", after := #[{ on := 10, ground := .data }, { on := 16, ground := .data }, { on := 7, ground := .guard }], guard := some (7, true) }) (v := ?_) rfl (by kernel_rfl) (by kernel_rfl) rfl ?_ ?_); rotate_left; focus (intro W hW; (try dsimp only at hW); go_split_ands; go_simp; (try (simp (disch := omega) only [IntWalk.i64_in]; (try go_simp))); (try (split; (next => omega); (try go_simp))); try rfl; done))
    try simp only [Act.put, List.setIfInBounds_toArray, List.set_cons_zero, List.set_cons_succ]
    ((refine pl_yes (i := 18) (oi := { dst := some 22, op := .pick (.tmp 11) (.tmp 21) (.const (.bool false)), type := 4, pos := "register.go:78", after := #[{ on := 7, ground := .data }, { on := 17, ground := .data }], guard := none }) (v := ?_) rfl (by kernel_rfl) (by kernel_rfl) rfl ?_ ?_); rotate_left; focus (intro W hW; (try dsimp only at hW); go_split_ands; go_simp; (try (simp (disch := omega) only [IntWalk.i64_in]; (try go_simp))); (try (split; (next => omega); (try go_simp))); try rfl; done))
    try simp only [Act.put, List.setIfInBounds_toArray, List.set_cons_zero, List.set_cons_succ]
    ((refine pl_yes (i := 19) (oi := { dst := some 3, op := .assign (.tmp 22), type := 4, pos := "register.go:78", after := #[{ on := 18, ground := .data }, { on := 7, ground := .chain }, { on := 0, ground := .phase }, { on := 1, ground := .phase }, { on := 2, ground := .phase }, { on := 3, ground := .phase }, { on := 4, ground := .phase }, { on := 5, ground := .phase }, { on := 6, ground := .phase }, { on := 7, ground := .phase }, { on := 8, ground := .phase }, { on := 9, ground := .phase }, { on := 10, ground := .phase }, { on := 11, ground := .phase }, { on := 12, ground := .phase }, { on := 13, ground := .phase }, { on := 14, ground := .phase }, { on := 15, ground := .phase }, { on := 16, ground := .phase }, { on := 17, ground := .phase }, { on := 18, ground := .phase }], guard := none }) (v := ?_) rfl (by kernel_rfl) (by kernel_rfl) rfl ?_ ?_); rotate_left; focus (intro W hW; (try dsimp only at hW); go_split_ands; go_simp; (try (simp (disch := omega) only [IntWalk.i64_in]; (try go_simp))); (try (split; (next => omega); (try go_simp))); try rfl; done))
    try simp only [Act.put, List.setIfInBounds_toArray, List.set_cons_zero, List.set_cons_succ]
    refine pl_done (by kernel_rfl)  ?_
    rintro w2 ⟨_, _, _, _, hc2⟩
    go_wp2_with (with_reducible first | refine stop_append ?_ | refine stop_copy ?_ | refine stop_make ?_ | refine stop_lookup ?_ | refine stop_update ?_ | refine stop_slice ?_ | refine stop_range ?_ | refine stop_next ?_ | refine stop_convert ⟨_, rfl⟩ ?_ | refine stop_convertB ⟨_, _, _, rfl⟩ ?_ | refine stop_eqSlice ⟨_, _, rfl⟩ ?_)
    go_ret
    exact ⟨rfl, hc2⟩
end Go.Proofs.Ytbjpoamnglfjeaa


/- Walks for a register: is one of a row of entries so? -/
set_option linter.unusedVariables false
set_option linter.unusedSimpArgs false
namespace Go.Proofs.Ytbjpoamnglfjeaa
open Go.RowKit Cb

def idxE (p : Ent → Bool) (l : List Ent) : Int := match l.findIdx? p with | some i => i | none => -1
set_option maxRecDepth 100000 in
set_option maxHeartbeats 1000000 in
theorem indexE_any (F : Nat → Prop) (v : Value) (l : List Ent) (p : Ent → Bool) (g : FuncId) (c1 : Value) (hg : ∀ args W, (callFunc g args).run Try.prog W = .ok (.enter g args) W) (w : World) (hs : Sl F w v l) (hl : l.length ≤ 17592186044416)
    (hp : ∀ i (h : i < l.length) u W, Chg No w W → Sl F W u l[i].2.2.1 → Calls Try.prog g #[entV l[i] u, c1] W fun e w' => e = .returned (.bool (p l[i])) ∧ Chg No W w') :
    Calls Try.prog 111 #[v, .func (.func g) #[] #[c1]] w fun e w' => e = .returned (.int .i64 (idxE p l)) ∧ Chg No w w' := by
  obtain ⟨A, c, rfl⟩ := hs.slice
  have Hp := Lib.hid hp; have Hs := Lib.hid hs
  clear hp hs
  go_enter Try.func111, Try.ntmps111
  go_wp2_with (with_reducible first | refine stop_append ?_ | refine stop_copy ?_ | refine stop_make ?_ | refine stop_lookup ?_ | refine stop_update ?_ | refine stop_slice ?_ | refine stop_range ?_ | refine stop_next ?_ | refine stop_convert ⟨_, rfl⟩ ?_ | refine stop_convertB ⟨_, _, _, rfl⟩ ?_ | refine stop_eqSlice ⟨_, _, rfl⟩ ?_)
  go_loopw [8] (fun v8 wr => ∃ k : Nat, k ≤ l.length ∧ v8 = .int .i64 k ∧ Chg No w wr ∧ ∀ i (h : i < l.length), i < k → p l[i] = false) (fun v8 _ => l.length - (intOf v8).toNat)
  case atStart => exact ⟨0, by omega, rfl, Chg.refl _ _, fun _ _ h => absurd h (by omega)⟩
  case round =>
    obtain ⟨k, hk, rfl, hc1, hall⟩ := hrel
    have Hall := Lib.hid hall; clear hall
    by_cases hlt : k < l.length
    · obtain ⟨b, o, u, rfl, _, hbl, hu, a0, a1, a2, a3, a4, a5⟩ := ent_get (Hs.out.keepNo hc1) k hlt
      have Hcall := Lib.hid (Hp.out k hlt u wr hc1 hu)
      have Hi1 := Lib.hid (show p l[k] = true → idxE p l = k from fun hpx => by
        simp only [idxE]
        rw [show l.findIdx? p = some k from List.findIdx?_eq_some_iff_getElem.2 ⟨hlt, hpx, fun j hj => by rw [Hall.out j (by omega) hj]; simp⟩])
      have Hi2 := Lib.hid (show p l[k] = false → ∀ i (h : i < l.length), i < k + 1 → p l[i] = false from fun hpx i h hi => by
        rcases Nat.lt_or_ge i k with h' | h'
        · exact Hall.out i h h'
        · obtain rfl : i = k := by omega
          exact hpx)
      generalize p l[k] = pb at *
      generalize l[k] = x at *
      obtain ⟨n, kd, cut, tag, t, q⟩ := x
      unfold entV at Hcall
      simp only at *
      obtain ⟨Au, cu, rfl⟩ := hu.slice
      clear hu
      cases pb with
      | true =>
        have Hi := Lib.hid (Hi1.out rfl)
        clear Hi1 Hi2
        go_wp2_with (with_reducible first | refine stop_append ?_ | refine stop_copy ?_ | refine stop_make ?_ | refine stop_lookup ?_ | refine stop_update ?_ | refine stop_slice ?_ | refine stop_range ?_ | refine stop_next ?_ | refine stop_convert ⟨_, rfl⟩ ?_ | refine stop_convertB ⟨_, _, _, rfl⟩ ?_ | refine stop_eqSlice ⟨_, _, rfl⟩ ?_)
        refine Hcall.out.mono ?_
        rintro e w1 ⟨rfl, hc2⟩
        go_wp2_with (with_reducible first | refine stop_append ?_ | refine stop_copy ?_ | refine stop_make ?_ | refine stop_lookup ?_ | refine stop_update ?_ | refine stop_slice ?_ | refine stop_range ?_ | refine stop_next ?_ | refine stop_convert ⟨_, rfl⟩ ?_ | refine stop_convertB ⟨_, _, _, rfl⟩ ?_ | refine stop_eqSlice ⟨_, _, rfl⟩ ?_)
        go_ret
        rw [Hi.out]
        exact ⟨rfl, hc1.trans hc2⟩
      | false =>
        have Hi := Lib.hid (Hi2.out rfl)
        clear Hi1 Hi2
        go_wp2_with (with_reducible first | refine stop_append ?_ | refine stop_copy ?_ | refine stop_make ?_ | refine stop_lookup ?_ | refine stop_update ?_ | refine stop_slice ?_ | refine stop_range ?_ | refine stop_next ?_ | refine stop_convert ⟨_, rfl⟩ ?_ | refine stop_convertB ⟨_, _, _, rfl⟩ ?_ | refine stop_eqSlice ⟨_, _, rfl⟩ ?_)
        refine Hcall.out.mono ?_
        rintro e w1 ⟨rfl, hc2⟩
        clear a0 a1 a2 a3 a4 a5
        go_wp2_with (with_reducible first | refine stop_append ?_ | refine stop_copy ?_ | refine stop_make ?_ | refine stop_lookup ?_ | refine stop_update ?_ | refine stop_slice ?_ | refine stop_range ?_ | refine stop_next ?_ | refine stop_convert ⟨_, rfl⟩ ?_ | refine stop_convertB ⟨_, _, _, rfl⟩ ?_ | refine stop_eqSlice ⟨_, _, rfl⟩ ?_)
        go_roundw
        case rel => exact ⟨k + 1, by omega, by go_num, hc1.trans hc2, Hi.out⟩
        case measure => simp [intOf]; omega
    · have Hi := Lib.hid (show idxE p l = -1 by
        simp only [idxE]
        rw [List.findIdx?_eq_none_iff.2 (fun x hx => by
          obtain ⟨i, hi, rfl⟩ := List.mem_iff_getElem.1 hx
          exact Hall.out i hi (by omega))])
      go_wp2_with (with_reducible first | refine stop_append ?_ | refine stop_copy ?_ | refine stop_make ?_ | refine stop_lookup ?_ | refine stop_update ?_ | refine stop_slice ?_ | refine stop_range ?_ | refine stop_next ?_ | refine stop_convert ⟨_, rfl⟩ ?_ | refine stop_convertB ⟨_, _, _, rfl⟩ ?_ | refine stop_eqSlice ⟨_, _, rfl⟩ ?_)
      go_ret
      rw [Hi.out]
      exact ⟨rfl, hc1⟩
theorem containsE_any (F : Nat → Prop) (v : Value) (l : List Ent) (p : Ent → Bool) (g : FuncId) (c1 : Value) (hg : ∀ args W, (callFunc g args).run Try.prog W = .ok (.enter g args) W) (w : World) (hs : Sl F w v l) (hl : l.length ≤ 17592186044416)
    (hp : ∀ i (h : i < l.length) u W, Chg No w W → Sl F W u l[i].2.2.1 → Calls Try.prog g #[entV l[i] u, c1] W fun e w' => e = .returned (.bool (p l[i])) ∧ Chg No W w') :
    Calls Try.prog 98 #[v, .func (.func g) #[] #[c1]] w fun e w' => e = .returned (.bool (l.any p)) ∧ Chg No w w' := by
  have Hcall := Lib.hid (indexE_any F v l p g c1 hg w hs hl hp)
  clear hp hs
  have hr : (0 ≤ idxE p l ∧ l.any p = true) ∨ (idxE p l < 0 ∧ l.any p = false) := by
    simp only [idxE]
    cases h : l.findIdx? p with
    | some i =>
      left
      obtain ⟨hi, hpi, _⟩ := List.findIdx?_eq_some_iff_getElem.1 h
      exact ⟨by simp, List.any_eq_true.2 ⟨_, List.getElem_mem hi, hpi⟩⟩
    | none =>
      right
      exact ⟨by simp, by rw [List.any_eq_false]; intro x hx; rw [List.findIdx?_eq_none_iff.1 h x hx]; simp⟩
  generalize idxE p l = i at Hcall hr
  generalize l.any p = r at hr ⊢
  rcases hr with ⟨hi, hr⟩ | ⟨hi, hr⟩
  all_goals
    have Hr := Lib.hid hr; clear hr
    have hib := hi
    go_enter Try.func98, Try.ntmps98
    go_wp2_with (with_reducible first | refine stop_append ?_ | refine stop_copy ?_ | refine stop_make ?_ | refine stop_lookup ?_ | refine stop_update ?_ | refine stop_slice ?_ | refine stop_range ?_ | refine stop_next ?_ | refine stop_convert ⟨_, rfl⟩ ?_ | refine stop_convertB ⟨_, _, _, rfl⟩ ?_ | refine stop_eqSlice ⟨_, _, rfl⟩ ?_)
    refine Hcall.out.mono ?_
    rintro e w1 ⟨rfl, hc2⟩
    go_wp2_with (with_reducible first | refine stop_append ?_ | refine stop_copy ?_ | refine stop_make ?_ | refine stop_lookup ?_ | refine stop_update ?_ | refine stop_slice ?_ | refine stop_range ?_ | refine stop_next ?_ | refine stop_convert ⟨_, rfl⟩ ?_ | refine stop_convertB ⟨_, _, _, rfl⟩ ?_ | refine stop_eqSlice ⟨_, _, rfl⟩ ?_)
    go_ret
    rw [Hr.out]
    exact ⟨by simp [hi], hc2⟩
end Go.Proofs.Ytbjpoamnglfjeaa


/- Walks of package register: fits. -/
set_option linter.unusedVariables false
set_option linter.unusedSimpArgs false
namespace Go.Proofs.Ytbjpoamnglfjeaa
open Go.RowKit Cb

def fitsB (n : Option Nat) (l : List Ent) : Bool := decide ((chainF l 0 []).1 = l.length) && !l.any (badB n)
/-- What a pointer to a row is: none, or the number of shards can be read. -/
def RowP (w : World) (px : Option Addr) (nn : Option Nat) : Prop :=
  (px = none ∧ nn = none) ∨ ∃ g o ns As cs, px = some ⟨g, o, none⟩ ∧ nn = some ns ∧ w.cell? ⟨g, o + 2, none⟩ = some (.slice As ns cs)
theorem RowP.keep {w w' : World} {px : Option Addr} {nn : Option Nat} (h : RowP w px nn) (hc : Chg No w w') : RowP w' px nn := by
  rcases h with h | ⟨g, o, ns, As, cs, h1, h2, h3⟩
  · exact .inl h
  · exact .inr ⟨g, o, ns, As, cs, h1, h2, hc.cell h3 (not_no _)⟩
theorem fits1_any (bx : Nat) (px : Option Addr) (nn : Option Nat) (e : Ent) (v : Value) (w : World) (hb : w.cell? ⟨bx, 0, none⟩ = some (.pointer px)) (hr : RowP w px nn) (hs : Sl No w v e.2.2.1) :
    Calls Try.prog 96 #[entV e v, .pointer (some ⟨bx, 0, none⟩)] w fun x w' => x = .returned (.bool (badB nn e)) ∧ Chg No w w' := by
  rcases hr with ⟨rfl, rfl⟩ | ⟨g, o, ns, As, cs, rfl, rfl, h3⟩
  · exact fits1_none bx e v w hb hs
  · exact fits1_some bx g o ns cs As e v w hb h3 hs
set_option maxRecDepth 100000 in
set_option maxHeartbeats 1000000 in
theorem fits_any (px : Option Addr) (nn : Option Nat) (v : Value) (l : List Ent) (w : World) (hr : RowP w px nn) (h : Sl No w v l) (hl : l.length ≤ 2199023255488) (hcb : ∀ e ∈ l, e.2.2.1.length ≤ 17592186043904) :
    Calls Try.prog 68 #[v, .pointer px] w fun e w' => e = .returned (.bool (fitsB nn l)) ∧ Chg No w w' := by
  have Hch := Lib.hid (fun W (hW : Chg No w W) => chain_any v l W (h.keepNo hW) hl hcb)
  have Hct := Lib.hid (fun bx W (hW : Chg No w W) (hb : W.cell? ⟨bx, 0, none⟩ = some (.pointer px)) => containsE_any No v l (badB nn) 96 (.pointer (some ⟨bx, 0, none⟩)) (fun args W => by kernel_rfl) W (h.keepNo hW) (by omega) (fun i h' u W' hW' hu => fits1_any bx px nn l[i] u W' (hW'.cell hb (not_no _)) (hr.keep (hW.trans hW')) hu))
  have hf : fitsB nn l = (decide ((chainF l 0 []).1 = l.length) && !l.any (badB nn)) := rfl
  obtain ⟨A, c, rfl⟩ := h.slice
  clear h hcb hr
  generalize (chainF l 0 []).1 = m at *
  generalize l.any (badB nn) = ab at *
  generalize fitsB nn l = R at *
  have Hf := Lib.hid hf
  clear hf
  have hca := (Chg.refl No w).alloc (.cells #[.pointer px] 139)
  have hb := cell_obj (i := 0) (alloc_obj w (.cells #[.pointer px] 139)) rfl
  by_cases hm : m = l.length
  · have Hm := Lib.hid hm
    rw [hm] at Hch
    clear hm
    go_enter Try.func68, Try.ntmps68
    go_wp2_with (with_reducible first | refine stop_append ?_ | refine stop_copy ?_ | refine stop_make ?_ | refine stop_lookup ?_ | refine stop_update ?_ | refine stop_slice ?_ | refine stop_range ?_ | refine stop_next ?_ | refine stop_convert ⟨_, rfl⟩ ?_ | refine stop_convertB ⟨_, _, _, rfl⟩ ?_ | refine stop_eqSlice ⟨_, _, rfl⟩ ?_)
    refine (Hch.out _ hca).mono ?_
    rintro e w1 ⟨rfl, hc1⟩
    have hb1 := hc1.cell hb (not_no _)
    have hcw := hca.trans hc1
    go_wp2_with (with_reducible first | refine stop_append ?_ | refine stop_copy ?_ | refine stop_make ?_ | refine stop_lookup ?_ | refine stop_update ?_ | refine stop_slice ?_ | refine stop_range ?_ | refine stop_next ?_ | refine stop_convert ⟨_, rfl⟩ ?_ | refine stop_convertB ⟨_, _, _, rfl⟩ ?_ | refine stop_eqSlice ⟨_, _, rfl⟩ ?_)
    refine (Hct.out _ _ hcw hb1).mono ?_
    rintro e w2 ⟨rfl, hc2⟩
    go_wp2_with (with_reducible first | refine stop_append ?_ | refine stop_copy ?_ | refine stop_make ?_ | refine stop_lookup ?_ | refine stop_update ?_ | refine stop_slice ?_ | refine stop_range ?_ | refine stop_next ?_ | refine stop_convert ⟨_, rfl⟩ ?_ | refine stop_convertB ⟨_, _, _, rfl⟩ ?_ | refine stop_eqSlice ⟨_, _, rfl⟩ ?_)
    go_ret
    exact ⟨by rw [Hf.out, decide_eq_true Hm.out]; rfl, hcw.trans hc2⟩
  · have k1 : ((m : Int) == l.length) = false := by simp; omega
    have k2 : (m == l.length) = false := by simpa using hm
    have Hm := Lib.hid hm
    clear hm
    go_enter Try.func68, Try.ntmps68
    go_wp2_with (with_reducible first | refine stop_append ?_ | refine stop_copy ?_ | refine stop_make ?_ | refine stop_lookup ?_ | refine stop_update ?_ | refine stop_slice ?_ | refine stop_range ?_ | refine stop_next ?_ | refine stop_convert ⟨_, rfl⟩ ?_ | refine stop_convertB ⟨_, _, _, rfl⟩ ?_ | refine stop_eqSlice ⟨_, _, rfl⟩ ?_)
    refine (Hch.out _ hca).mono ?_
    rintro e w1 ⟨rfl, hc1⟩
    go_wp2_with (with_reducible first | refine stop_append ?_ | refine stop_copy ?_ | refine stop_make ?_ | refine stop_lookup ?_ | refine stop_update ?_ | refine stop_slice ?_ | refine stop_range ?_ | refine stop_next ?_ | refine stop_convert ⟨_, rfl⟩ ?_ | refine stop_convertB ⟨_, _, _, rfl⟩ ?_ | refine stop_eqSlice ⟨_, _, rfl⟩ ?_)
    go_ret
    exact ⟨by rw [Hf.out, decide_eq_false Hm.out]; rfl, hca.trans hc1⟩
end Go.Proofs.Ytbjpoamnglfjeaa


/- Walks of package register: Install of what is no configuration. -/
set_option linter.unusedVariables false
set_option linter.unusedSimpArgs false
namespace Go.Proofs.Ytbjpoamnglfjeaa
open Go.RowKit Cb

set_option maxRecDepth 100000 in
set_option maxHeartbeats 1000000 in
theorem install_wrong (p : Nat) (t : Int) (vq vs vt : Value) (q : List Int) (s : List (List Int)) (w : World) (hq : Sl No w vq q) (hs : Sl No w vs s) (hlq : q.length * 8 ≤ 140737488351232) (hls : s.length ≤ 17592186044416) (hb : ∀ x ∈ s, x.length * 8 ≤ 140737488351232)
    (hr : rightC t q s = false) : Calls Try.prog 33 #[.pointer (some ⟨p, 0, none⟩), cfgV t vq vs, vt] w fun e w' => e = .returned (.int .i64 1) ∧ Chg No w w' := by
  have Hr := Lib.hid (fun W (hW : Chg No w W) => tright_any No No t vq vs q s W (hq.keepNo hW) (hs.keepNo hW) hlq hls hb)
  rw [hr] at Hr
  clear hr
  obtain ⟨Aq, cq, rfl⟩ := hq.slice
  obtain ⟨As, cs, rfl⟩ := hs.slice
  clear hq hs hb
  unfold cfgV at *
  have o1 := alloc_obj w (.cells #[.int .i64 t, .slice Aq q.length cq, .slice As s.length cs] 68)
  have hc0 := (Chg.refl No w).alloc (.cells #[.int .i64 t, .slice Aq q.length cq, .slice As s.length cs] 68)
  have a0 := cell_obj (i := 0) o1 rfl
  have a1 := cell_obj (i := 1) o1 rfl
  have a2 := cell_obj (i := 2) o1 rfl
  go_enter Try.func33, Try.ntmps33
  go_wp2_with (with_reducible first | refine stop_append ?_ | refine stop_copy ?_ | refine stop_make ?_ | refine stop_lookup ?_ | refine stop_update ?_ | refine stop_slice ?_ | refine stop_range ?_ | refine stop_next ?_ | refine stop_convert ⟨_, rfl⟩ ?_ | refine stop_convertB ⟨_, _, _, rfl⟩ ?_ | refine stop_eqSlice ⟨_, _, rfl⟩ ?_)
  refine (Hr.out _ hc0).mono ?_
  rintro e w1 ⟨rfl, hc1⟩
  go_wp2_with (with_reducible first | refine stop_append ?_ | refine stop_copy ?_ | refine stop_make ?_ | refine stop_lookup ?_ | refine stop_update ?_ | refine stop_slice ?_ | refine stop_range ?_ | refine stop_next ?_ | refine stop_convert ⟨_, rfl⟩ ?_ | refine stop_convertB ⟨_, _, _, rfl⟩ ?_ | refine stop_eqSlice ⟨_, _, rfl⟩ ?_)
  go_ret
  exact ⟨rfl, hc0.trans hc1⟩
end Go.Proofs.Ytbjpoamnglfjeaa


/- A cell of a row of the call's own is written. It speaks of no program. -/
set_option linter.unusedVariables false
set_option linter.unusedSimpArgs false
namespace Go.Proofs.Ytbjpoamnglfjeaa
open Go.RowKit Cb

theorem flatten_setn {n : Nat} (ds : List (List Value)) : ∀ (hd : ∀ d ∈ ds, d.length = n) (k j : Nat) (u : Value) (hk : k < ds.length) (hj : j < n), ds.flatten.set (k * n + j) u = (ds.set k (ds[k].set j u)).flatten := by
  induction ds with
  | nil => intro _ k _ _ hk; simp at hk
  | cons d r ih =>
    intro hd k j u hk hj
    have hl := hd d (List.mem_cons_self ..)
    cases k with
    | zero =>
      simp only [Nat.zero_mul, Nat.zero_add, List.flatten_cons, List.set_cons_zero, List.getElem_cons_zero]
      exact List.set_append_left _ _ (by omega)
    | succ k =>
      simp only [List.flatten_cons, List.set_cons_succ, List.getElem_cons_succ]
      rw [List.set_append_right _ _ (by rw [hl, Nat.succ_mul]; omega), show (k + 1) * n + j - d.length = k * n + j by rw [hl, Nat.succ_mul]; omega, ih (fun x hx => hd x (List.mem_cons_of_mem _ hx)) k j u (by simpa using hk) hj]
theorem own_set {α : Type} [Rep α] {F : Nat → Prop} {w : World} {base : Nat} {T : TypeId} {v : Value} {xs : List α} (h : Cb.Own F w base T v xs) (k : Nat) (hk : k < xs.length) {b : Nat} (hb : v.ownBlock = some b) (j : Nat) (hj : j < Rep.n α) (u : Value) (y : α)
    (hy : ∀ d, Rep.cs (Or F (OB v)) w xs[k] d → Rep.cs (Or F (OB v)) w y (d.set j u)) :
    Cb.Own F (w.setCell ⟨b, k * Rep.n α + j, none⟩ u) base T v (xs.set k y) ∧ w.frozen? ⟨b, k * Rep.n α + j, none⟩ = false := by
  obtain ⟨ds, hl, hd, ho1, ho2⟩ := h
  have hlen : ∀ d ∈ ds, d.length = Rep.n α := fun d hd' => by
    obtain ⟨i, hi, rfl⟩ := List.mem_iff_getElem.1 hd'
    exact Rep.len (hd i (by omega) hi)
  rcases ho2 with ⟨rfl, h0⟩ | ⟨g, cap, cur, rfl, hbg, hg, hnc, hm, hs, ht⟩
  · omega
  · obtain rfl : g = b := by simpa [Value.ownBlock] using hb
    have hkd : k < ds.length := by omega
    have hc : Chg (Or F (OB (.slice (some ⟨g, 0, none⟩) xs.length cap))) w (w.setCell ⟨g, k * Rep.n α + j, none⟩ u) := (Chg.refl _ w).setCell (p := ⟨g, k * Rep.n α + j, none⟩) (.inl (.inr rfl)) u
    refine ⟨⟨ds.set k (ds[k].set j u), by simpa using hl, fun i hi hi' => ?_, ?_, .inr ⟨g, cap, cur.setIfInBounds (k * Rep.n α + j) u, by simp, hbg, set_obj hg _, by simpa using hnc, hm, by simpa using hs, ?_⟩⟩, free_obj hg⟩
    · rw [List.getElem_set, List.getElem_set]
      by_cases e : k = i
      · subst e
        rw [if_pos rfl, if_pos rfl]
        exact Rep.keep (hy _ (hd k hk hkd)) hc
      · rw [if_neg e, if_neg e]
        exact Rep.keep (hd i (by simpa using hi) (by simpa using hi')) hc
    · rw [← flatten_setn ds hlen k j u hkd hj, List.length_set, List.length_set, ho1]
    · rw [← flatten_setn ds hlen k j u hkd hj, ← ht, List.length_set, Array.toList_setIfInBounds, List.take_set]
theorem own_weak {α : Type} [Rep α] {F G : Nat → Prop} {w : World} {base : Nat} {T : TypeId} {v : Value} {xs : List α} (h : Cb.Own F w base T v xs) (hG : ∀ b, G b → F b) : Cb.Own G w base T v xs := by
  obtain ⟨ds, hl, hd, ho⟩ := h
  exact ⟨ds, hl, fun i hi hi' => Rep.weak (hd i hi hi') (fun b _ hb => hb.imp (hG b) id), ho⟩
/-- A register that is clear of F. -/
def RegX (F : Nat → Prop) (w : World) (B p : Nat) (rows : List Rw) : Prop :=
  ∃ v, w.heap[p]? = some (.cells #[v] 137 (0, 0)) ∧ B ≤ p ∧ Cb.Own (Or F (At p)) w B 88 v rows ∧ ∀ k, v.ownBlock = some k → k ≠ p
theorem RegX.toS {F : Nat → Prop} {w : World} {B p : Nat} {rows : List Rw} (h : RegX F w B p rows) (hF : ∀ k, k < B → F k) : RegS w B p rows := by
  obtain ⟨v, h1, h2, h3, h4⟩ := h
  exact ⟨v, h1, h2, own_weak h3 (fun b hb => hb.imp (fun h => hF b h) id), h4⟩
theorem RegX.keepNo {F : Nat → Prop} {w w' : World} {B p : Nat} {rows : List Rw} (h : RegX F w B p rows) (hc : Chg No w w') : RegX F w' B p rows := by
  obtain ⟨v, h1, h2, h3, h4⟩ := h
  exact ⟨v, hc.obj h1 (not_no _), h2, h3.keep hc (fun _ _ f => f.elim) (fun _ _ f => f), h4⟩
/-- What is written lies in F, and not in the register's own blocks. -/
theorem RegX.keep {F G : Nat → Prop} {w w' : World} {B p : Nat} {rows : List Rw} (h : RegX F w B p rows) (hc : Chg G w w') (hG : ∀ k, k < w.heap.size → G k → F k) (hp : ¬ G p) (hv : ∀ v, w.cell? ⟨p, 0, none⟩ = some v → ∀ k, v.ownBlock = some k → ¬ G k) : RegX F w' B p rows := by
  obtain ⟨v, h1, h2, h3, h4⟩ := h
  exact ⟨v, hc.obj h1 hp, h2, h3.keep hc (fun b hb g => .inl (hG b hb g)) (hv v (cell_obj h1 rfl)), h4⟩
/-- A register becomes clear of a new block. -/
theorem RegX.more {F G : Nat → Prop} {w : World} {B p : Nat} {rows : List Rw} (h : RegX F w B p rows) (hG : ∀ k, k < w.heap.size → G k → F k) : RegX G w B p rows := by
  obtain ⟨v, h1, h2, ⟨ds, hl, hd, ho⟩, h4⟩ := h
  exact ⟨v, h1, h2, ⟨ds, hl, fun i hi hi' => Rep.weak (hd i hi hi') (fun b hb hg => by
    rcases hg with (hg | hg) | hg
    · exact .inl (.inl (hG b hb hg))
    · exact .inl (.inr hg)
    · exact .inr hg), ho⟩, h4⟩
/-- A row of the register is told to be over: its tail and its mark are written. -/
theorem reg_over {F : Nat → Prop} {w : World} {B p : Nat} {rows : List Rw} (h : RegX F w B p rows) {g n c : Nat} (hc : w.cell? ⟨p, 0, none⟩ = some (.slice (some ⟨g, 0, none⟩) n c)) (k : Nat) (hk : k < rows.length) (A : Option Addr) (m d : Nat) (l : List Ent)
    (hs : Sl (Or (Or F (At p)) (At g)) w (.slice A m d) l) :
    RegX F ((w.setCell ⟨g, k * 5 + 3, none⟩ (.slice A m d)).setCell ⟨g, k * 5 + 4, none⟩ (.bool true)) B p (rows.set k (rows[k].1, rows[k].2.1, rows[k].2.2.1, l, true)) ∧
      w.frozen? ⟨g, k * 5 + 3, none⟩ = false ∧ (w.setCell ⟨g, k * 5 + 3, none⟩ (.slice A m d)).frozen? ⟨g, k * 5 + 4, none⟩ = false := by
  obtain ⟨v, h1, h2, h3, h4⟩ := h
  have e := cell_obj (i := 0) h1 rfl
  rw [hc] at e
  obtain rfl := Option.some.inj e
  have hgp : p ≠ g := fun e => h4 g rfl e.symm
  have hsg : Sl (Or (Or F (At p)) (OB (.slice (some ⟨g, 0, none⟩) n c))) w (.slice A m d) l := hs.weak (fun b _ hb => by
    rcases hb with hb | hb
    · exact .inl hb
    · simp only [OB, Value.ownBlock, Option.some.injEq] at hb; exact .inr (by simp only [At]; omega))
  obtain ⟨o1, f1⟩ := own_set h3 k hk (b := g) rfl 3 (by rw [rw_n]; omega) (.slice A m d) ((rows[k].1, rows[k].2.1, rows[k].2.2.1, l, rows[k].2.2.2.2) : Rw) (fun dd hd => by
    obtain ⟨vq, vs, vt, rfl, hq, hsS, ht⟩ := rw_cs hd
    exact rw_mk (rows[k].1, rows[k].2.1, rows[k].2.2.1, l, rows[k].2.2.2.2) hq hsS hsg)
  obtain ⟨o2, f2⟩ := own_set o1 k (by simpa using hk) (b := g) rfl 4 (by rw [rw_n]; omega) (.bool true) ((rows[k].1, rows[k].2.1, rows[k].2.2.1, l, true) : Rw) (fun dd hd => by
    rw [List.getElem_set_self] at hd
    obtain ⟨vq, vs, vt, rfl, hq, hsS, ht⟩ := rw_cs hd
    exact rw_mk (rows[k].1, rows[k].2.1, rows[k].2.2.1, l, true) hq hsS ht)
  rw [List.set_set] at o2
  rw [rw_n] at o1 o2 f1 f2
  exact ⟨⟨_, obj_set_other (obj_set_other h1 hgp) hgp, h2, o2, h4⟩, f1, f2⟩
end Go.Proofs.Ytbjpoamnglfjeaa


/- Walks of package register: at, for any term; what an install does to the rows. -/
set_option linter.unusedVariables false
set_option linter.unusedSimpArgs false
namespace Go.Proofs.Ytbjpoamnglfjeaa
open Go.RowKit Cb

def atR (rows : List Rw) (t : Int) : Option Nat := if firstR rows ≤ t ∧ t ≤ firstR rows + (rows.length - 1 : Nat) then some (t - firstR rows).toNat else none
def atV (g : Nat) (o : Option Nat) : Option Addr := o.map (fun i => ⟨g, i * 5, none⟩)
def rowA (rows : List Rw) (i : Nat) : Rw := rows.getD i (0, [], [], [], false)
def nsF (rows : List Rw) (t : Int) : Option Nat := (atR rows t).map (fun i => (rowA rows i).2.2.1.length)
theorem rowA_get (rows : List Rw) (i : Nat) (h : i < rows.length) : rowA rows i = rows[i] := by simp [rowA, h]
theorem atR_some {rows : List Rw} (hi : 0 < rows.length) {t : Int} {i : Nat} (h : atR rows t = some i) : i < rows.length ∧ t = firstR rows + i := by
  unfold atR at h
  split at h
  · next hc => cases h; omega
  · cases h
theorem atR_none {rows : List Rw} {t : Int} (h : atR rows t = none) : t < firstR rows ∨ firstR rows + (rows.length - 1 : Nat) < t := by
  unfold atR at h
  split at h
  · cases h
  · omega
/-- The register's own blocks. -/
def RegF (w : World) (p : Nat) : Nat → Prop := fun k => k = p ∨ ∃ v, w.cell? ⟨p, 0, none⟩ = some v ∧ v.ownBlock = some k
theorem regF_iff {w : World} {p g n c : Nat} (hc : w.cell? ⟨p, 0, none⟩ = some (.slice (some ⟨g, 0, none⟩) n c)) (k : Nat) : RegF w p k ↔ k = p ∨ k = g := by
  unfold RegF
  rw [hc]
  constructor
  · rintro (h | ⟨v, h1, h2⟩)
    · exact .inl h
    · cases h1
      simp only [Value.ownBlock, Option.some.injEq] at h2
      exact .inr h2.symm
  · rintro (h | h)
    · exact .inl h
    · exact .inr ⟨_, rfl, by simp [Value.ownBlock, h]⟩
theorem regF_of {w w' : World} {p : Nat} (h : w'.cell? ⟨p, 0, none⟩ = w.cell? ⟨p, 0, none⟩) {k : Nat} (hk : RegF w' p k) : RegF w p k := by
  unfold RegF at *
  rwa [h] at hk
theorem regS_cell {w : World} {B p : Nat} {rows : List Rw} (h : RegS w B p rows) : ∃ v, w.cell? ⟨p, 0, none⟩ = some v ∧ ∀ k, v.ownBlock = some k → B ≤ k ∧ k < w.heap.size := by
  obtain ⟨v, h1, h2, h3, h4⟩ := h
  exact ⟨v, cell_obj h1 rfl, h3.lt⟩
theorem regF_lt {w : World} {B p : Nat} {rows : List Rw} (h : RegS w B p rows) {k : Nat} (hk : RegF w p k) : B ≤ k ∧ k < w.heap.size := by
  obtain ⟨v, h1, h2⟩ := regS_cell h
  rcases hk with rfl | ⟨v', h3, h4⟩
  · exact ⟨by obtain ⟨_, _, h, _⟩ := h; exact h, h.lt⟩
  · rw [h1] at h3; cases h3; exact h2 k h4
theorem regF_no {w w' : World} {B p : Nat} {rows : List Rw} (h : RegS w B p rows) (hc : Chg No w w') {k : Nat} (hk : RegF w' p k) : RegF w p k := by
  obtain ⟨v, h1, -⟩ := regS_cell h
  exact regF_of (by rw [hc.cell h1 (not_no _), h1]) hk
/-- A block that lies, and is none of the register's. -/
def Off (w : World) (p b : Nat) : Prop := b < w.heap.size ∧ ¬ RegF w p b
theorem Off.no {w w' : World} {B p b : Nat} {rows : List Rw} (h : Off w p b) (hr : RegS w B p rows) (hc : Chg No w w') : Off w' p b :=
  ⟨by have := hc.size; have := h.1; omega, fun hk => h.2 (regF_no hr hc hk)⟩
theorem Off.new {w w' : World} {B p b : Nat} {rows : List Rw} (hr : RegS w B p rows) (hc : Chg No w w') (h1 : w.heap.size ≤ b) (h2 : b < w'.heap.size) : Off w' p b :=
  ⟨h2, fun hk => by have := (regF_lt hr (regF_no hr hc hk)).2; omega⟩
/-- What an install did to memory. -/
def Inst (w w' : World) (p : Nat) : Prop := Chg (RegF w p) w w' ∧ ∀ k, RegF w' p k → RegF w p k ∨ w.heap.size ≤ k
theorem Off.inst {w w' : World} {p b : Nat} (h : Off w p b) (hc : Inst w w' p) : Off w' p b :=
  ⟨by have := hc.1.size; have := h.1; omega, fun hk => by rcases hc.2 b hk with h1 | h1; exact h.2 h1; have := h.1; omega⟩
theorem Off.obj {w w' : World} {p b : Nat} (h : Off w p b) (hc : Inst w w' p) {o : Obj} (ho : w.heap[b]? = some o) : w'.heap[b]? = some o := hc.1.obj ho h.2
theorem Inst.no {w w' : World} {B p : Nat} {rows : List Rw} (hr : RegS w B p rows) (hc : Chg No w w') : Inst w w' p := ⟨hc.of_no, fun k hk => .inl (regF_no hr hc hk)⟩
theorem Inst.ge {w w' : World} {B p : Nat} {rows : List Rw} (h : Inst w w' p) (hr : RegS w B p rows) : Chg (Ge B) w w' := h.1.weak (fun k _ hk => (regF_lt hr hk).1)
/-- What an install answers, and the rows behind it. -/
def installG (rows : List Rw) (t : Int) (q : List Int) (s : List (List Int)) (l : List Ent) (fb : Bool) (oo ao : Option Nat) : Int × List Rw :=
  if fb then
    match oo, ao with
    | some j, some i => (if sameC (rowA rows j).1 (rowA rows j).2.1 (rowA rows j).2.2.1 t q s && decide ((rowA rows i).2.2.2.1 = l) then 0 else 140, rows)
    | some _, none => (140, rows)
    | none, some i => (0, rows.set i ((rowA rows i).1, (rowA rows i).2.1, (rowA rows i).2.2.1, l, true) ++ [(t, q, s, [], false)])
    | none, none => (141, rows)
  else (1, rows)
def installF (rows : List Rw) (t : Int) (q : List Int) (s : List (List Int)) (l : List Ent) : Int × List Rw :=
  installG rows t q s l (rightC t q s && fitsB (nsF rows (t - 1)) l) (atR rows t) (atR rows (t - 1))
theorem rat_any (B p : Nat) (rows : List Rw) (w : World) (h : RegS w B p rows) (hi : RowsI rows) {g n c : Nat} (hc : w.cell? ⟨p, 0, none⟩ = some (.slice (some ⟨g, 0, none⟩) n c)) (hn : n = rows.length) (t : Int) :
    Calls Try.prog 69 #[.pointer (some ⟨p, 0, none⟩), .int .i64 t] w fun e w' => e = .returned (.pointer (atV g (atR rows t))) ∧ Chg No w w' := by
  rcases ho : atR rows t with _ | i
  · exact rat_no B p rows w h hi t (atR_none ho)
  · obtain ⟨h1, rfl⟩ := atR_some hi.1 ho
    exact rat_yes B p rows w h hi hc hn i h1
theorem rowp_any {w : World} {B p : Nat} {rows : List Rw} (h : RegS w B p rows) (hi : RowsI rows) {g n c : Nat} (hc : w.cell? ⟨p, 0, none⟩ = some (.slice (some ⟨g, 0, none⟩) n c)) (t : Int) :
    RowP w (atV g (atR rows t)) (nsF rows t) := by
  unfold nsF
  rcases ho : atR rows t with _ | i
  · exact .inl ⟨rfl, rfl⟩
  · obtain ⟨h1, -⟩ := atR_some hi.1 ho
    obtain ⟨vq, vs, vt, k0, k1, k2, k3, k4, s1, s2, s3⟩ := rg_get h hc i h1
    obtain ⟨As, cs, rfl⟩ := s2.slice
    exact .inr ⟨g, i * 5, _, As, cs, rfl, by simp [rowA_get rows i h1], k2⟩
theorem chain_all (l : List Ent) : ∀ i last, (chainF l i last).1 = i + l.length → ∀ e ∈ l, entR e = true := by
  induction l with
  | nil => intro i last _ e he; cases he
  | cons x r ih =>
    intro i last h
    simp only [chainF] at h
    split at h
    · next hk =>
      simp only [List.length_cons] at h
      have hr := ih (i + 1) (lastE last x) (by omega)
      simp only [okE, Bool.and_eq_true] at hk
      exact fun e he => by
        rcases List.mem_cons.1 he with rfl | he
        · exact hk.1
        · exact hr e he
    · simp at h
theorem entR_cut {e : Ent} (h : entR e = true) : e.2.2.1.length ≤ 8 := by
  unfold entR at h
  rw [Bool.and_eq_true] at h
  obtain ⟨_, h⟩ := h
  split at h
  · rw [Bool.and_eq_true] at h; exact (vright_iff.1 h.1).2.1
  · split at h
    · simp only [Bool.and_eq_true, decide_eq_true_eq] at h; omega
    · cases h
theorem fits_tail {nn : Option Nat} {l : List Ent} (h : fitsB nn l = true) (hi : TailI l) : TailB l := by
  unfold fitsB at h
  rw [Bool.and_eq_true, decide_eq_true_eq] at h
  exact ⟨hi.1, fun e he => by have := entR_cut (chain_all l 0 [] (by omega) e he); omega⟩
end Go.Proofs.Ytbjpoamnglfjeaa


/- Walks of the document's chapter 5: Follows, Chain. -/
set_option linter.unusedVariables false
set_option linter.unusedSimpArgs false
namespace Go.Proofs.Ytbjpoamnglfjeaa
open Go.RowKit Cb

/-- The last cut of a row. -/
def lastO (l : List Ent) : Option (List Int) := l.foldl (fun a e => if e.2.1 = 1 then some e.2.2.1 else a) none
theorem lastO_app (l : List Ent) (e : Ent) : lastO (l ++ [e]) = if e.2.1 = 1 then some e.2.2.1 else lastO l := by
  unfold lastO; rw [List.foldl_append]; rfl
theorem lastO_skip (l : List Ent) (j : Nat) (h : ∀ x ∈ l.drop j, x.2.1 ≠ 1) : lastO l = lastO (l.take j) := by
  have key : ∀ (r : List Ent) (a : Option (List Int)), (∀ x ∈ r, x.2.1 ≠ 1) → r.foldl (fun a e => if e.2.1 = 1 then some e.2.2.1 else a) a = a := by
    intro r
    induction r with
    | nil => intro a _; rfl
    | cons e r ih =>
      intro a h
      rw [List.foldl_cons, if_neg (h e (by simp))]
      exact ih a (fun x hx => h x (by simp [hx]))
  conv => lhs; rw [← List.take_append_drop j l]
  unfold lastO
  rw [List.foldl_append, key _ _ h]
theorem lastO_mem {l : List Ent} {c : List Int} (h : lastO l = some c) : ∃ e ∈ l, e.2.1 = 1 ∧ e.2.2.1 = c := by
  suffices ∀ (l : List Ent) (a : Option (List Int)), l.foldl (fun a e => if e.2.1 = 1 then some e.2.2.1 else a) a = some c → a = some c ∨ ∃ e ∈ l, e.2.1 = 1 ∧ e.2.2.1 = c by
    rcases this l none h with h | h
    · cases h
    · exact h
  intro l
  induction l with
  | nil => intro a h; exact .inl h
  | cons e r ih =>
    intro a h
    simp only [List.foldl_cons] at h
    rcases ih _ h with h | ⟨x, hx, h1⟩
    · split at h
      · next hk => cases h; exact .inr ⟨e, by simp, hk, rfl⟩
      · exact .inl h
    · exact .inr ⟨x, by simp [hx], h1⟩
def followsF (l : List Ent) (e : Ent) : Bool := entR e && (decide (e.1 = (l.length : Int) + 1) && (!decide (e.2.1 = 1) || match lastO l with | some c => coversB e.2.2.1 c | none => true))
/-- The last cut, or nothing. -/
def lastK (l : List Ent) (k : Nat) : List Int := (lastO (l.take k)).getD []
theorem lastK_step {l : List Ent} {k : Nat} (hk : k < l.length) : lastE (lastK l k) l[k] = lastK l (k + 1) := by
  unfold lastK lastE
  rw [List.take_succ_eq_append_getElem hk, lastO_app]
  split <;> simp
theorem follows_ok {l : List Ent} {k : Nat} (hk : k < l.length) (h : ∀ e ∈ l.take k, entR e = true) : okE k (lastK l k) l[k] = followsF (l.take k) l[k] := by
  have hl : (l.take k).length = k := by simp; omega
  unfold okE followsF lastK
  rw [hl]
  rcases e : lastO (l.take k) with _ | c
  · simp
  · obtain ⟨x, hx, h1, h2⟩ := lastO_mem e
    have hx := h x hx
    have : c.length ≠ 0 := by
      obtain ⟨n, kd, cut, r⟩ := x
      simp only at h1 h2
      subst h1 h2
      unfold entR at hx
      simp only [if_true, Bool.and_eq_true] at hx
      have := (vright_iff.1 hx.2.1).1
      omega
    simp [this]
theorem chain_start (l : List Ent) : chainF l 0 [] = chainF (l.drop 0) 0 (lastK l 0) := by simp [lastK, lastO]
end Go.Proofs.Ytbjpoamnglfjeaa


/- Walks of the document's chapter 5: Follows, Chain. -/
set_option linter.unusedVariables false
set_option linter.unusedSimpArgs false
namespace Go.Proofs.Ytbjpoamnglfjeaa
open Go.RowKit Cb

theorem info_dent : Info Try.prog 52 (.agg #[.int .i64 0, .int .i64 0, .slice none 0 0, .int .i64 0, .int .i64 0, .int .i64 0]) 6 64 := by unfold Info; kernel_rfl
set_option maxRecDepth 100000 in
set_option maxHeartbeats 4000000 in
theorem dfollows_any (F G : Nat → Prop) (v u : Value) (l : List Ent) (e : Ent) (w : World) (hs : Sl F w v l) (he : Sl G w u e.2.2.1) (hl : l.length ≤ 2199023255488) (hcb : ∀ e ∈ l, e.2.2.1.length ≤ 17592186043904) (hel : e.2.2.1.length ≤ 17592186043904) :
    Calls Try.prog 101 #[v, entV e u] w fun x w' => x = .returned (.bool (followsF l e)) ∧ Chg No w w' := by
  have Hr := Lib.hid (fun W (hW : Chg No w W) => dright_any G e u W (he.keepNo hW) (by omega))
  have Hs := Lib.hid (fun W (hW : Chg No w W) => hs.keepNo hW)
  have Hcov := Lib.hid (fun i (hi : i < l.length) x W (hW : Chg No w W) (hx : Sl F W x l[i].2.2.1) => rcovers_any G F u x e.2.2.1 l[i].2.2.1 W (he.keepNo hW) hx (by omega) (by have := hcb _ (List.getElem_mem hi); omega))
  have hF : followsF l e = (entR e && (decide (e.1 = (l.length : Int) + 1) && (!decide (e.2.1 = 1) || match lastO l with | some c => coversB e.2.2.1 c | none => true))) := rfl
  obtain ⟨A, c, rfl⟩ := hs.slice
  obtain ⟨B, d, rfl⟩ := he.slice
  clear hs he hcb
  generalize followsF l e = R at *
  generalize entR e = er at *
  obtain ⟨n, k, cut, tag, t, p⟩ := e
  simp only at hF Hcov hel Hr
  unfold entV at *
  simp only at Hr ⊢
  have HF := Lib.hid hF
  clear hF
  have o1 := alloc_obj w (.cells #[.int .i64 n, .int .i64 k, .slice B cut.length d, .int .i64 tag, .int .i64 t, .int .i64 p] 52)
  have hc0 := (Chg.refl No w).alloc (.cells #[.int .i64 n, .int .i64 k, .slice B cut.length d, .int .i64 tag, .int .i64 t, .int .i64 p] 52)
  have a0 := cell_obj (i := 0) o1 rfl
  have a1 := cell_obj (i := 1) o1 rfl
  have a2 := cell_obj (i := 2) o1 rfl
  have a3 := cell_obj (i := 3) o1 rfl
  have a4 := cell_obj (i := 4) o1 rfl
  have a5 := cell_obj (i := 5) o1 rfl
  go_enter Try.func101, Try.ntmps101
  go_wp2_with (with_reducible first | refine stop_append ?_ | refine stop_copy ?_ | refine stop_make ?_ | refine stop_lookup ?_ | refine stop_update ?_ | refine stop_slice ?_ | refine stop_range ?_ | refine stop_next ?_ | refine stop_convert ⟨_, rfl⟩ ?_ | refine stop_convertB ⟨_, _, _, rfl⟩ ?_ | refine stop_eqSlice ⟨_, _, rfl⟩ ?_)
  generalize w.alloc (.cells #[.int .i64 n, .int .i64 k, .slice B cut.length d, .int .i64 tag, .int .i64 t, .int .i64 p] 52) = w0 at *
  generalize w.heap.size = b0 at *
  refine (Hr.out _ hc0).mono ?_
  rintro x w1 ⟨rfl, hc1⟩
  have hcw := hc0.trans hc1
  replace a0 := hc1.cell a0 (not_no _)
  replace a1 := hc1.cell a1 (not_no _)
  replace a2 := hc1.cell a2 (not_no _)
  clear a3 a4 a5 o1 Hr
  rcases er with _ | _
  · go_wp2_with (with_reducible first | refine stop_append ?_ | refine stop_copy ?_ | refine stop_make ?_ | refine stop_lookup ?_ | refine stop_update ?_ | refine stop_slice ?_ | refine stop_range ?_ | refine stop_next ?_ | refine stop_convert ⟨_, rfl⟩ ?_ | refine stop_convertB ⟨_, _, _, rfl⟩ ?_ | refine stop_eqSlice ⟨_, _, rfl⟩ ?_)
    go_ret
    exact ⟨by rw [HF.out]; rfl, hcw⟩
  by_cases hn : n = (l.length : Int) + 1
  case neg =>
    have k2 : (n == (l.length : Int) + 1) = false := beq_false_of_ne hn
    have e4 := Lib.hid (decide_eq_false hn)
    clear hn
    go_wp2_with (with_reducible first | refine stop_append ?_ | refine stop_copy ?_ | refine stop_make ?_ | refine stop_lookup ?_ | refine stop_update ?_ | refine stop_slice ?_ | refine stop_range ?_ | refine stop_next ?_ | refine stop_convert ⟨_, rfl⟩ ?_ | refine stop_convertB ⟨_, _, _, rfl⟩ ?_ | refine stop_eqSlice ⟨_, _, rfl⟩ ?_)
    go_ret
    exact ⟨by rw [HF.out, e4.out]; rfl, hcw⟩
  have Hn := Lib.hid hn
  subst hn
  have HF2 := Lib.hid (show R = (!decide (k = 1) || match lastO l with | some c => coversB cut c | none => true) by rw [HF.out, decide_eq_true rfl]; rfl)
  clear HF Hn
  by_cases hk : k = 1
  case neg =>
    have k1 : (k == 1) = false := beq_false_of_ne hk
    have e4 := Lib.hid (decide_eq_false hk)
    clear hk
    go_wp2_with (with_reducible first | refine stop_append ?_ | refine stop_copy ?_ | refine stop_make ?_ | refine stop_lookup ?_ | refine stop_update ?_ | refine stop_slice ?_ | refine stop_range ?_ | refine stop_next ?_ | refine stop_convert ⟨_, rfl⟩ ?_ | refine stop_convertB ⟨_, _, _, rfl⟩ ?_ | refine stop_eqSlice ⟨_, _, rfl⟩ ?_)
    go_loopw [5] (fun v5 wr => v5 = .int .i64 ((l.length : Int) - 1) ∧ wr = w1) (fun _ _ => 0)
    case atStart => exact ⟨rfl, rfl⟩
    case round =>
      obtain ⟨rfl, rfl⟩ := hrel
      by_cases h0 : 0 ≤ (l.length : Int) - 1
      · go_wp2_with (with_reducible first | refine stop_append ?_ | refine stop_copy ?_ | refine stop_make ?_ | refine stop_lookup ?_ | refine stop_update ?_ | refine stop_slice ?_ | refine stop_range ?_ | refine stop_next ?_ | refine stop_convert ⟨_, rfl⟩ ?_ | refine stop_convertB ⟨_, _, _, rfl⟩ ?_ | refine stop_eqSlice ⟨_, _, rfl⟩ ?_)
        go_ret
        exact ⟨by rw [HF2.out, e4.out]; rfl, hcw⟩
      · go_wp2_with (with_reducible first | refine stop_append ?_ | refine stop_copy ?_ | refine stop_make ?_ | refine stop_lookup ?_ | refine stop_update ?_ | refine stop_slice ?_ | refine stop_range ?_ | refine stop_next ?_ | refine stop_convert ⟨_, rfl⟩ ?_ | refine stop_convertB ⟨_, _, _, rfl⟩ ?_ | refine stop_eqSlice ⟨_, _, rfl⟩ ?_)
        go_ret
        exact ⟨by rw [HF2.out, e4.out]; rfl, hcw⟩
  subst hk
  have HF3 := Lib.hid (show R = (match lastO l with | some c => coversB cut c | none => true) by rw [HF2.out, decide_eq_true rfl]; rfl)
  clear HF2
  go_wp2_with (with_reducible first | refine stop_append ?_ | refine stop_copy ?_ | refine stop_make ?_ | refine stop_lookup ?_ | refine stop_update ?_ | refine stop_slice ?_ | refine stop_range ?_ | refine stop_next ?_ | refine stop_convert ⟨_, rfl⟩ ?_ | refine stop_convertB ⟨_, _, _, rfl⟩ ?_ | refine stop_eqSlice ⟨_, _, rfl⟩ ?_)
  go_loopw [5] (fun v5 wr => ∃ (j : Nat) (z : Int), j ≤ l.length ∧ z = (j : Int) - 1 ∧ v5 = .int .i64 z ∧ Chg No w1 wr ∧ ∀ x ∈ l.drop j, x.2.1 ≠ 1) (fun v5 _ => (intOf v5 + 1).toNat)
  case atStart => exact ⟨l.length, _, by omega, rfl, rfl, Chg.refl _ _, by simp⟩
  case round =>
    obtain ⟨j, z, hj, hz, rfl, hc, hall⟩ := hrel
    have Hall := Lib.hid hall
    have hcr := hcw.trans hc
    clear hall
    rcases j with _ | i
    · obtain rfl : z = -1 := by omega
      clear hz
      have Hfin := Lib.hid (show R = true by rw [HF3.out, lastO_skip l 0 Hall.out]; rfl)
      go_wp2_with (with_reducible first | refine stop_append ?_ | refine stop_copy ?_ | refine stop_make ?_ | refine stop_lookup ?_ | refine stop_update ?_ | refine stop_slice ?_ | refine stop_range ?_ | refine stop_next ?_ | refine stop_convert ⟨_, rfl⟩ ?_ | refine stop_convertB ⟨_, _, _, rfl⟩ ?_ | refine stop_eqSlice ⟨_, _, rfl⟩ ?_)
      go_ret
      exact ⟨by rw [Hfin.out]; rfl, hcr⟩
    · obtain rfl : z = (i : Int) := by omega
      clear hz
      have hlt : i < l.length := by omega
      obtain ⟨b, o, vc, rfl, -, hbl, sc, e0, e1, e2, -, -, -⟩ := ent_get (Hs.out wr hcr) i hlt
      have Hc := Lib.hid (fun W (hW : Chg No wr W) => Hcov.out i hlt vc W (hcr.trans hW) (sc.keepNo hW))
      have Hdr := Lib.hid (List.drop_eq_getElem_cons hlt)
      have Htk := Lib.hid (List.take_succ_eq_append_getElem hlt)
      generalize l[i] = y at *
      obtain ⟨yn, yk, yc, yr⟩ := y
      simp only at e0 e1 e2 sc Hc
      obtain ⟨C, cc, rfl⟩ := sc.slice
      replace a2 := hc.cell a2 (not_no _)
      replace a1 := hc.cell a1 (not_no _)
      clear sc a0
      by_cases hy : yk = 1
      · subst hy
        have Hfin := Lib.hid (show R = coversB cut yc by rw [HF3.out, lastO_skip l (i + 1) Hall.out, Htk.out, lastO_app, if_pos rfl])
        generalize coversB cut yc = cv at *
        have cd := (Chg.refl No wr).drew
        go_wp2_with (with_reducible first | refine stop_append ?_ | refine stop_copy ?_ | refine stop_make ?_ | refine stop_lookup ?_ | refine stop_update ?_ | refine stop_slice ?_ | refine stop_range ?_ | refine stop_next ?_ | refine stop_convert ⟨_, rfl⟩ ?_ | refine stop_convertB ⟨_, _, _, rfl⟩ ?_ | refine stop_eqSlice ⟨_, _, rfl⟩ ?_)
        refine pl_start (fun W => W.cell? ⟨b0, 2, none⟩ = some (.slice B cut.length d) ∧ W.cell? ⟨b, o + i * 6 + 2, none⟩ = some (.slice C yc.length cc) ∧ Chg No wr W) (by kernel_rfl) (by kernel_rfl) ⟨cd.cell a2 (not_no _), cd.cell e2 (not_no _), cd⟩ ?_
        ((refine pl_yes (i := 0) (oi := { dst := some 35, op := .fieldAddr 52 (.tmp 3) 2, type := 0, pos := "ref.go:86", after := #[], guard := none }) (v := ?_) rfl (by kernel_rfl) (by kernel_rfl) rfl ?_ ?_); rotate_left; focus (intro W hW; (try dsimp only at hW); go_split_ands; go_simp; (try (simp (disch := omega) only [IntWalk.i64_in]; (try go_simp))); (try (split; (next => omega); (try go_simp))); try rfl; done))
        try simp only [Act.put, List.setIfInBounds_toArray, List.set_cons_zero, List.set_cons_succ]
        ((refine pl_yes (i := 1) (oi := { dst := some 36, op := .load 46 (.tmp 35), type := 46, pos := "ref.go:86", after := #[{ on := 0, ground := .data }], guard := none }) (v := ?_) rfl (by kernel_rfl) (by kernel_rfl) rfl ?_ ?_); rotate_left; focus (intro W hW; (try dsimp only at hW); go_split_ands; go_simp; (try (simp (disch := omega) only [IntWalk.i64_in]; (try go_simp))); (try (split; (next => omega); (try go_simp))); try rfl; done))
        try simp only [Act.put, List.setIfInBounds_toArray, List.set_cons_zero, List.set_cons_succ]
        ((refine pl_yes (i := 2) (oi := { dst := some 37, op := .move (.tmp 0), type := 22, pos := "ref.go:86", after := #[], guard := none }) (v := ?_) rfl (by kernel_rfl) (by kernel_rfl) rfl ?_ ?_); rotate_left; focus (intro W hW; (try dsimp only at hW); go_split_ands; go_simp; (try (simp (disch := omega) only [IntWalk.i64_in]; (try go_simp))); (try (split; (next => omega); (try go_simp))); try rfl; done))
        try simp only [Act.put, List.setIfInBounds_toArray, List.set_cons_zero, List.set_cons_succ]
        ((refine pl_yes (i := 3) (oi := { dst := some 38, op := .move (.tmp 5), type := 3, pos := "ref.go:86", after := #[], guard := none }) (v := ?_) rfl (by kernel_rfl) (by kernel_rfl) rfl ?_ ?_); rotate_left; focus (intro W hW; (try dsimp only at hW); go_split_ands; go_simp; (try (simp (disch := omega) only [IntWalk.i64_in]; (try go_simp))); (try (split; (next => omega); (try go_simp))); try rfl; done))
        try simp only [Act.put, List.setIfInBounds_toArray, List.set_cons_zero, List.set_cons_succ]
        ((refine pl_yes (i := 4) (oi := { dst := some 39, op := .indexAddr 22 (.tmp 37) (.tmp 38), type := 0, pos := "ref.go:86", after := #[{ on := 2, ground := .data }, { on := 3, ground := .data }], guard := none }) (v := ?_) rfl (by kernel_rfl) (by kernel_rfl) rfl ?_ ?_); rotate_left; focus (intro W hW; (try dsimp only at hW); go_split_ands; go_simp; (try (simp (disch := omega) only [IntWalk.i64_in]; (try go_simp))); (try (split; (next => omega); (try go_simp))); try rfl; done))
        try simp only [Act.put, List.setIfInBounds_toArray, List.set_cons_zero, List.set_cons_succ]
        ((refine pl_yes (i := 5) (oi := { dst := some 40, op := .fieldAddr 52 (.tmp 39) 2, type := 0, pos := "ref.go:86", after := #[{ on := 4, ground := .data }], guard := none }) (v := ?_) rfl (by kernel_rfl) (by kernel_rfl) rfl ?_ ?_); rotate_left; focus (intro W hW; (try dsimp only at hW); go_split_ands; go_simp; (try (simp (disch := omega) only [IntWalk.i64_in]; (try go_simp))); (try (split; (next => omega); (try go_simp))); try rfl; done))
        try simp only [Act.put, List.setIfInBounds_toArray, List.set_cons_zero, List.set_cons_succ]
        ((refine pl_yes (i := 6) (oi := { dst := some 41, op := .load 46 (.tmp 40), type := 46, pos := "ref.go:86", after := #[{ on := 5, ground := .data }], guard := none }) (v := ?_) rfl (by kernel_rfl) (by kernel_rfl) rfl ?_ ?_); rotate_left; focus (intro W hW; (try dsimp only at hW); go_split_ands; go_simp; (try (simp (disch := omega) only [IntWalk.i64_in]; (try go_simp))); (try (split; (next => omega); (try go_simp))); try rfl; done))
        try simp only [Act.put, List.setIfInBounds_toArray, List.set_cons_zero, List.set_cons_succ]
        refine pl_call (i := 7) (oi := { dst := some 42, op := .call { callee := .value (.func 113), args := #[.tmp 36, .tmp 41], argTypes := #[46, 46] }, type := 4, pos := "ref.go:86", after := #[{ on := 1, ground := .data }, { on := 6, ground := .data }], guard := none }) (.bool cv) rfl (by kernel_rfl) (by kernel_rfl) rfl (by exact (fun W hW => (Hc.out W hW.2.2).mono fun e w' h => ⟨h.1, h.2.cell hW.1 (not_no _), h.2.cell hW.2.1 (not_no _), hW.2.2.trans h.2⟩)) (fun W => by kernel_rfl) ?_
        try simp only [Act.put, List.setIfInBounds_toArray, List.set_cons_zero, List.set_cons_succ]
        ((refine pl_yes (i := 8) (oi := { dst := some 4, op := .assign (.tmp 42), type := 4, pos := "ref.go:86", after := #[{ on := 7, ground := .data }, { on := 7, ground := .chain }, { on := 0, ground := .phase }, { on := 1, ground := .phase }, { on := 2, ground := .phase }, { on := 3, ground := .phase }, { on := 4, ground := .phase }, { on := 5, ground := .phase }, { on := 6, ground := .phase }, { on := 7, ground := .phase }], guard := none }) (v := ?_) rfl (by kernel_rfl) (by kernel_rfl) rfl ?_ ?_); rotate_left; focus (intro W hW; (try dsimp only at hW); go_split_ands; go_simp; (try (simp (disch := omega) only [IntWalk.i64_in]; (try go_simp))); (try (split; (next => omega); (try go_simp))); try rfl; done))
        try simp only [Act.put, List.setIfInBounds_toArray, List.set_cons_zero, List.set_cons_succ]
        refine pl_done (by kernel_rfl)  ?_
        rintro w4 ⟨-, -, hc4⟩
        go_wp2_with (with_reducible first | refine stop_append ?_ | refine stop_copy ?_ | refine stop_make ?_ | refine stop_lookup ?_ | refine stop_update ?_ | refine stop_slice ?_ | refine stop_range ?_ | refine stop_next ?_ | refine stop_convert ⟨_, rfl⟩ ?_ | refine stop_convertB ⟨_, _, _, rfl⟩ ?_ | refine stop_eqSlice ⟨_, _, rfl⟩ ?_)
        go_ret
        exact ⟨by rw [Hfin.out]; rfl, hcr.trans hc4⟩
      · have k1 : (yk == 1) = false := beq_false_of_ne hy
        have Hy := Lib.hid hy
        clear hy
        go_wp2_with (with_reducible first | refine stop_append ?_ | refine stop_copy ?_ | refine stop_make ?_ | refine stop_lookup ?_ | refine stop_update ?_ | refine stop_slice ?_ | refine stop_range ?_ | refine stop_next ?_ | refine stop_convert ⟨_, rfl⟩ ?_ | refine stop_convertB ⟨_, _, _, rfl⟩ ?_ | refine stop_eqSlice ⟨_, _, rfl⟩ ?_)
        go_roundw
        case rel => exact ⟨i, _, by omega, rfl, by first | rfl | trivial, hc, by
          rw [Hdr.out]
          intro x hx
          rcases List.mem_cons.1 hx with rfl | hx
          · exact Hy.out
          · exact Hall.out x hx⟩
        case measure => first | (simp [intOf]; done) | (simp [intOf]; omega)
set_option maxRecDepth 100000 in
set_option maxHeartbeats 4000000 in
theorem dchain_any (F : Nat → Prop) (v : Value) (l : List Ent) (w : World) (hs : Sl F w v l) (hl : l.length ≤ 2199023255488) (hcb : ∀ e ∈ l, e.2.2.1.length ≤ 17592186043904) :
    Calls Try.prog 76 #[v] w fun e w' => e = .returned (.int .i64 ((chainF l 0 []).1 : Nat)) ∧ Chg No w w' := by
  have Hs := Lib.hid (fun W (hW : Chg No w W) => hs.keepNo hW)
  have Hcb := Lib.hid hcb
  obtain ⟨A, c, rfl⟩ := hs.slice
  clear hs hcb
  obtain ⟨M, hM⟩ : ∃ M, M = (chainF l 0 []).1 := ⟨_, rfl⟩
  rw [← hM]
  have HM := Lib.hid hM
  clear hM
  go_enter Try.func76, Try.ntmps76
  go_wp2_with (with_reducible first | refine stop_append ?_ | refine stop_copy ?_ | refine stop_make ?_ | refine stop_lookup ?_ | refine stop_update ?_ | refine stop_slice ?_ | refine stop_range ?_ | refine stop_next ?_ | refine stop_convert ⟨_, rfl⟩ ?_ | refine stop_convertB ⟨_, _, _, rfl⟩ ?_ | refine stop_eqSlice ⟨_, _, rfl⟩ ?_)
  go_loopw [3] (fun v3 wr => ∃ k : Nat, k ≤ l.length ∧ v3 = .int .i64 k ∧ Chg No w wr ∧ M = (chainF (l.drop k) k (lastK l k)).1 ∧ ∀ e ∈ l.take k, entR e = true) (fun v3 _ => l.length - (intOf v3).toNat)
  case atStart => exact ⟨0, by omega, rfl, Chg.refl _ _, by rw [HM.out, chain_start], by simp⟩
  case round =>
    obtain ⟨k, hk, rfl, hc, hch, hall⟩ := hrel
    have Hch := Lib.hid hch
    have Hall := Lib.hid hall
    have cd := (Chg.refl No wr).drew
    clear hch hall
    by_cases hlt : k < l.length
    · obtain ⟨b, o, vc, rfl, -, hbl, sc, e0, e1, e2, e3, e4, e5⟩ := ent_get (Hs.out wr hc) k hlt
      have Hfo := Lib.hid (fun W (hW : Chg No wr W) => dfollows_any F F (.slice (some ⟨b, o, none⟩) k c) vc (l.take k) l[k] W (take_sl (Hs.out W (hc.trans hW)) k (by omega)) (sc.keepNo hW) (by simp; omega) (fun e he => Hcb.out e (List.mem_of_mem_take he)) (Hcb.out _ (List.getElem_mem hlt)))
      have Hyes := Lib.hid (fun h : okE k (lastK l k) l[k] = true => show M = (chainF (l.drop (k + 1)) (k + 1) (lastK l (k + 1))).1 ∧ ∀ e ∈ l.take (k + 1), entR e = true from ⟨by rw [Hch.out, chain_yes hlt h, lastK_step hlt], by
        rw [List.take_succ_eq_append_getElem hlt]
        intro x hx
        rcases List.mem_append.1 hx with hx | hx
        · exact Hall.out x hx
        · rw [List.mem_singleton.1 hx]
          unfold okE at h
          rw [Bool.and_eq_true] at h
          exact h.1⟩)
      have Hnot := Lib.hid (fun h : okE k (lastK l k) l[k] = false => show M = k by rw [Hch.out, chain_no hlt h])
      rw [follows_ok hlt Hall.out] at Hyes Hnot
      generalize followsF (l.take k) l[k] = fo at *
      generalize l[k] = y at *
      obtain ⟨y0, y1, y2, y3, y4, y5⟩ := y
      unfold entV at Hfo
      simp only at sc e0 e1 e2 e3 e4 e5 Hfo
      obtain ⟨C, cc, rfl⟩ := sc.slice
      clear sc
      go_wp2_with (with_reducible first | refine stop_append ?_ | refine stop_copy ?_ | refine stop_make ?_ | refine stop_lookup ?_ | refine stop_update ?_ | refine stop_slice ?_ | refine stop_range ?_ | refine stop_next ?_ | refine stop_convert ⟨_, rfl⟩ ?_ | refine stop_convertB ⟨_, _, _, rfl⟩ ?_ | refine stop_eqSlice ⟨_, _, rfl⟩ ?_)
      have HS := Lib.hid (show ∀ W : World, Chg No wr W → (fun W => (W.cell? ⟨b, o + k * 6, none⟩ = some (.int .i64 y0) ∧ W.cell? ⟨b, o + k * 6 + 1, none⟩ = some (.int .i64 y1) ∧ W.cell? ⟨b, o + k * 6 + 2, none⟩ = some (.slice C y2.length cc)) ∧ (W.cell? ⟨b, o + k * 6 + 3, none⟩ = some (.int .i64 y3) ∧ W.cell? ⟨b, o + k * 6 + 4, none⟩ = some (.int .i64 y4) ∧ W.cell? ⟨b, o + k * 6 + 5, none⟩ = some (.int .i64 y5)) ∧ Chg No wr W) W from fun W hW => ⟨⟨hW.cell e0 (not_no _), hW.cell e1 (not_no _), hW.cell e2 (not_no _)⟩, ⟨hW.cell e3 (not_no _), hW.cell e4 (not_no _), hW.cell e5 (not_no _)⟩, hW⟩)
      refine pl_start (fun W => (W.cell? ⟨b, o + k * 6, none⟩ = some (.int .i64 y0) ∧ W.cell? ⟨b, o + k * 6 + 1, none⟩ = some (.int .i64 y1) ∧ W.cell? ⟨b, o + k * 6 + 2, none⟩ = some (.slice C y2.length cc)) ∧ (W.cell? ⟨b, o + k * 6 + 3, none⟩ = some (.int .i64 y3) ∧ W.cell? ⟨b, o + k * 6 + 4, none⟩ = some (.int .i64 y4) ∧ W.cell? ⟨b, o + k * 6 + 5, none⟩ = some (.int .i64 y5)) ∧ Chg No wr W) (by kernel_rfl) (by kernel_rfl) (HS.out _ cd) ?_
      ((refine pl_yes (i := 0) (oi := { dst := some 4, op := .move (.tmp 3), type := 3, pos := "ref.go:95", after := #[], guard := none }) (v := ?_) rfl (by kernel_rfl) (by kernel_rfl) rfl ?_ ?_); rotate_left; focus (intro W hW; (try dsimp only at hW); go_split_ands; go_simp; (try (simp (disch := omega) only [IntWalk.i64_in]; (try go_simp))); (try (split; (next => omega); (try go_simp))); try rfl; done))
      try simp only [Act.put, List.setIfInBounds_toArray, List.set_cons_zero, List.set_cons_succ]
      ((refine pl_yes (i := 1) (oi := { dst := some 5, op := .move (.tmp 0), type := 22, pos := "ref.go:95", after := #[], guard := none }) (v := ?_) rfl (by kernel_rfl) (by kernel_rfl) rfl ?_ ?_); rotate_left; focus (intro W hW; (try dsimp only at hW); go_split_ands; go_simp; (try (simp (disch := omega) only [IntWalk.i64_in]; (try go_simp))); (try (split; (next => omega); (try go_simp))); try rfl; done))
      try simp only [Act.put, List.setIfInBounds_toArray, List.set_cons_zero, List.set_cons_succ]
      ((refine pl_yes (i := 2) (oi := { dst := some 6, op := .call { callee := .builtin .len, args := #[.tmp 5], argTypes := #[22] }, type := 3, pos := "ref.go:95", after := #[{ on := 1, ground := .data }], guard := none }) (v := ?_) rfl (by kernel_rfl) (by kernel_rfl) rfl ?_ ?_); rotate_left; focus (intro W hW; (try dsimp only at hW); go_split_ands; go_simp; (try (simp (disch := omega) only [IntWalk.i64_in]; (try go_simp))); (try (split; (next => omega); (try go_simp))); try rfl; done))
      try simp only [Act.put, List.setIfInBounds_toArray, List.set_cons_zero, List.set_cons_succ]
      ((refine pl_yes (i := 3) (oi := { dst := some 7, op := .binOp .lss 3 (.tmp 4) (.tmp 6) 3, type := 4, pos := "ref.go:95", after := #[{ on := 0, ground := .data }, { on := 2, ground := .data }], guard := none }) (v := ?_) rfl (by kernel_rfl) (by kernel_rfl) rfl ?_ ?_); rotate_left; focus (intro W hW; (try dsimp only at hW); go_split_ands; go_simp; (try (simp (disch := omega) only [IntWalk.i64_in]; (try go_simp))); (try (split; (next => omega); (try go_simp))); try rfl; done))
      try simp only [Act.put, List.setIfInBounds_toArray, List.set_cons_zero, List.set_cons_succ]
      ((refine pl_yes (i := 4) (oi := { dst := some 8, op := .move (.tmp 7), type := 4, pos := "ref.go:95", after := #[{ on := 3, ground := .data }], guard := none }) (v := ?_) rfl (by kernel_rfl) (by kernel_rfl) rfl ?_ ?_); rotate_left; focus (intro W hW; (try dsimp only at hW); go_split_ands; go_simp; (try (simp (disch := omega) only [IntWalk.i64_in]; (try go_simp))); (try (split; (next => omega); (try go_simp))); try rfl; done))
      try simp only [Act.put, List.setIfInBounds_toArray, List.set_cons_zero, List.set_cons_succ]
      first | (refine pl_no (i := 5) (oi := { dst := some 9, op := .move (.tmp 0), type := 22, pos := "ref.go:95", after := #[{ on := 4, ground := .guard }], guard := some (4, true) }) rfl (by kernel_rfl) (by kernel_rfl) rfl ?_) | ((refine pl_yes (i := 5) (oi := { dst := some 9, op := .move (.tmp 0), type := 22, pos := "ref.go:95", after := #[{ on := 4, ground := .guard }], guard := some (4, true) }) (v := ?_) rfl (by kernel_rfl) (by kernel_rfl) rfl ?_ ?_); rotate_left; focus (intro W hW; (try dsimp only at hW); go_split_ands; go_simp; (try (simp (disch := omega) only [IntWalk.i64_in]; (try go_simp))); (try (split; (next => omega); (try go_simp))); try rfl; done))
      try simp only [Act.put, List.setIfInBounds_toArray, List.set_cons_zero, List.set_cons_succ]
      first | (refine pl_no (i := 6) (oi := { dst := some 10, op := .move (.tmp 3), type := 3, pos := "ref.go:95", after := #[{ on := 4, ground := .guard }], guard := some (4, true) }) rfl (by kernel_rfl) (by kernel_rfl) rfl ?_) | ((refine pl_yes (i := 6) (oi := { dst := some 10, op := .move (.tmp 3), type := 3, pos := "ref.go:95", after := #[{ on := 4, ground := .guard }], guard := some (4, true) }) (v := ?_) rfl (by kernel_rfl) (by kernel_rfl) rfl ?_ ?_); rotate_left; focus (intro W hW; (try dsimp only at hW); go_split_ands; go_simp; (try (simp (disch := omega) only [IntWalk.i64_in]; (try go_simp))); (try (split; (next => omega); (try go_simp))); try rfl; done))
      try simp only [Act.put, List.setIfInBounds_toArray, List.set_cons_zero, List.set_cons_succ]
      first | (refine pl_no (i := 8) (oi := { dst := some 12, op := .move (.tmp 0), type := 22, pos := "ref.go:95", after := #[{ on := 4, ground := .guard }], guard := some (4, true) }) rfl (by kernel_rfl) (by kernel_rfl) rfl ?_) | ((refine pl_yes (i := 8) (oi := { dst := some 12, op := .move (.tmp 0), type := 22, pos := "ref.go:95", after := #[{ on := 4, ground := .guard }], guard := some (4, true) }) (v := ?_) rfl (by kernel_rfl) (by kernel_rfl) rfl ?_ ?_); rotate_left; focus (intro W hW; (try dsimp only at hW); go_split_ands; go_simp; (try (simp (disch := omega) only [IntWalk.i64_in]; (try go_simp))); (try (split; (next => omega); (try go_simp))); try rfl; done))
      try simp only [Act.put, List.setIfInBounds_toArray, List.set_cons_zero, List.set_cons_succ]
      first | (refine pl_no (i := 9) (oi := { dst := some 13, op := .move (.tmp 3), type := 3, pos := "ref.go:95", after := #[{ on := 4, ground := .guard }], guard := some (4, true) }) rfl (by kernel_rfl) (by kernel_rfl) rfl ?_) | ((refine pl_yes (i := 9) (oi := { dst := some 13, op := .move (.tmp 3), type := 3, pos := "ref.go:95", after := #[{ on := 4, ground := .guard }], guard := some (4, true) }) (v := ?_) rfl (by kernel_rfl) (by kernel_rfl) rfl ?_ ?_); rotate_left; focus (intro W hW; (try dsimp only at hW); go_split_ands; go_simp; (try (simp (disch := omega) only [IntWalk.i64_in]; (try go_simp))); (try (split; (next => omega); (try go_simp))); try rfl; done))
      try simp only [Act.put, List.setIfInBounds_toArray, List.set_cons_zero, List.set_cons_succ]
      first | (refine pl_no (i := 10) (oi := { dst := some 14, op := .indexAddr 22 (.tmp 12) (.tmp 13), type := 0, pos := "ref.go:95", after := #[{ on := 8, ground := .data }, { on := 9, ground := .data }, { on := 4, ground := .guard }], guard := some (4, true) }) rfl (by kernel_rfl) (by kernel_rfl) rfl ?_) | ((refine pl_yes (i := 10) (oi := { dst := some 14, op := .indexAddr 22 (.tmp 12) (.tmp 13), type := 0, pos := "ref.go:95", after := #[{ on := 8, ground := .data }, { on := 9, ground := .data }, { on := 4, ground := .guard }], guard := some (4, true) }) (v := ?_) rfl (by kernel_rfl) (by kernel_rfl) rfl ?_ ?_); rotate_left; focus (intro W hW; (try dsimp only at hW); go_split_ands; go_simp; (try (simp (disch := omega) only [IntWalk.i64_in]; (try go_simp))); (try (split; (next => omega); (try go_simp))); try rfl; done))
      try simp only [Act.put, List.setIfInBounds_toArray, List.set_cons_zero, List.set_cons_succ]
      first | (refine pl_no (i := 11) (oi := { dst := some 15, op := .load 52 (.tmp 14), type := 52, pos := "ref.go:95", after := #[{ on := 10, ground := .data }, { on := 4, ground := .guard }], guard := some (4, true) }) rfl (by kernel_rfl) (by kernel_rfl) rfl ?_) | ((refine pl_yes (i := 11) (oi := { dst := some 15, op := .load 52 (.tmp 14), type := 52, pos := "ref.go:95", after := #[{ on := 10, ground := .data }, { on := 4, ground := .guard }], guard := some (4, true) }) (v := ?_) rfl (by kernel_rfl) (by kernel_rfl) rfl ?_ ?_); rotate_left; focus (intro W hW; (try dsimp only at hW); go_split_ands; go_simp; (try (simp (disch := omega) only [IntWalk.i64_in]; (try go_simp))); (try (split; (next => omega); (try go_simp))); try rfl; done))
      try simp only [Act.put, List.setIfInBounds_toArray, List.set_cons_zero, List.set_cons_succ]
      refine pl_yes (i := 7) (oi := { dst := some 11, op := .slice 22 (.tmp 9) none (some (.tmp 10)) none, type := 22, pos := "ref.go:95", after := #[{ on := 5, ground := .data }, { on := 6, ground := .data }, { on := 4, ground := .guard }], guard := some (4, true) }) (v := (.slice (some ⟨b, o, none⟩) k c)) rfl (by kernel_rfl) (by kernel_rfl) rfl (by exact (fun W hW => take_run (α := Ent) Try.underlying22 info_dent (Hs.out W (hc.trans hW.2.2)) rfl (kd := .i64) rfl (by omega))) ?_
      try simp only [Act.put, List.setIfInBounds_toArray, List.set_cons_zero, List.set_cons_succ]
      refine pl_call (i := 12) (oi := { dst := some 16, op := .call { callee := .value (.func 101), args := #[.tmp 11, .tmp 15], argTypes := #[22, 52] }, type := 4, pos := "ref.go:95", after := #[{ on := 7, ground := .data }, { on := 11, ground := .data }, { on := 4, ground := .chain }, { on := 4, ground := .guard }], guard := some (4, true) }) (.bool fo) rfl (by kernel_rfl) (by kernel_rfl) rfl (by exact (fun W hW => (Hfo.out W hW.2.2).mono fun e w' h => ⟨h.1, HS.out _ (hW.2.2.trans h.2)⟩)) (fun W => by kernel_rfl) ?_
      try simp only [Act.put, List.setIfInBounds_toArray, List.set_cons_zero, List.set_cons_succ]
      ((refine pl_yes (i := 13) (oi := { dst := some 17, op := .pick (.tmp 8) (.tmp 16) (.const (.bool false)), type := 4, pos := "ref.go:95", after := #[{ on := 4, ground := .data }, { on := 12, ground := .data }], guard := none }) (v := ?_) rfl (by kernel_rfl) (by kernel_rfl) rfl ?_ ?_); rotate_left; focus (intro W hW; (try dsimp only at hW); go_split_ands; go_simp; (try (simp (disch := omega) only [IntWalk.i64_in]; (try go_simp))); (try (split; (next => omega); (try go_simp))); try rfl; done))
      try simp only [Act.put, List.setIfInBounds_toArray, List.set_cons_zero, List.set_cons_succ]
      refine pl_done (by kernel_rfl)  ?_
      rintro w4 ⟨-, -, hc4⟩
      have hcw4 := hc.trans hc4
      clear e0 e1 e2 e3 e4 e5
      rcases fo with _ | _
      · have Hr := Lib.hid (Hnot.out rfl)
        go_wp2_with (with_reducible first | refine stop_append ?_ | refine stop_copy ?_ | refine stop_make ?_ | refine stop_lookup ?_ | refine stop_update ?_ | refine stop_slice ?_ | refine stop_range ?_ | refine stop_next ?_ | refine stop_convert ⟨_, rfl⟩ ?_ | refine stop_convertB ⟨_, _, _, rfl⟩ ?_ | refine stop_eqSlice ⟨_, _, rfl⟩ ?_)
        go_ret
        exact ⟨by rw [Hr.out]; rfl, hcw4⟩
      · obtain ⟨g1, g2⟩ := Hyes.out rfl
        have G1 := Lib.hid g1
        have G2 := Lib.hid g2
        clear g1 g2
        go_wp2_with (with_reducible first | refine stop_append ?_ | refine stop_copy ?_ | refine stop_make ?_ | refine stop_lookup ?_ | refine stop_update ?_ | refine stop_slice ?_ | refine stop_range ?_ | refine stop_next ?_ | refine stop_convert ⟨_, rfl⟩ ?_ | refine stop_convertB ⟨_, _, _, rfl⟩ ?_ | refine stop_eqSlice ⟨_, _, rfl⟩ ?_)
        go_roundw
        case rel => exact ⟨k + 1, by omega, by go_num, hcw4, G1.out, G2.out⟩
        case measure => simp [intOf]; omega
    · obtain rfl : k = l.length := by omega
      have Hr := Lib.hid (show M = l.length by rw [Hch.out, List.drop_length]; rfl)
      go_wp2_with (with_reducible first | refine stop_append ?_ | refine stop_copy ?_ | refine stop_make ?_ | refine stop_lookup ?_ | refine stop_update ?_ | refine stop_slice ?_ | refine stop_range ?_ | refine stop_next ?_ | refine stop_convert ⟨_, rfl⟩ ?_ | refine stop_convertB ⟨_, _, _, rfl⟩ ?_ | refine stop_eqSlice ⟨_, _, rfl⟩ ?_)
      refine pl_start (fun W => Chg No wr W) (by kernel_rfl) (by kernel_rfl) cd ?_
      ((refine pl_yes (i := 0) (oi := { dst := some 4, op := .move (.tmp 3), type := 3, pos := "ref.go:95", after := #[], guard := none }) (v := ?_) rfl (by kernel_rfl) (by kernel_rfl) rfl ?_ ?_); rotate_left; focus (intro W hW; (try dsimp only at hW); go_split_ands; go_simp; (try (simp (disch := omega) only [IntWalk.i64_in]; (try go_simp))); (try (split; (next => omega); (try go_simp))); try rfl; done))
      try simp only [Act.put, List.setIfInBounds_toArray, List.set_cons_zero, List.set_cons_succ]
      ((refine pl_yes (i := 1) (oi := { dst := some 5, op := .move (.tmp 0), type := 22, pos := "ref.go:95", after := #[], guard := none }) (v := ?_) rfl (by kernel_rfl) (by kernel_rfl) rfl ?_ ?_); rotate_left; focus (intro W hW; (try dsimp only at hW); go_split_ands; go_simp; (try (simp (disch := omega) only [IntWalk.i64_in]; (try go_simp))); (try (split; (next => omega); (try go_simp))); try rfl; done))
      try simp only [Act.put, List.setIfInBounds_toArray, List.set_cons_zero, List.set_cons_succ]
      ((refine pl_yes (i := 2) (oi := { dst := some 6, op := .call { callee := .builtin .len, args := #[.tmp 5], argTypes := #[22] }, type := 3, pos := "ref.go:95", after := #[{ on := 1, ground := .data }], guard := none }) (v := ?_) rfl (by kernel_rfl) (by kernel_rfl) rfl ?_ ?_); rotate_left; focus (intro W hW; (try dsimp only at hW); go_split_ands; go_simp; (try (simp (disch := omega) only [IntWalk.i64_in]; (try go_simp))); (try (split; (next => omega); (try go_simp))); try rfl; done))
      try simp only [Act.put, List.setIfInBounds_toArray, List.set_cons_zero, List.set_cons_succ]
      ((refine pl_yes (i := 3) (oi := { dst := some 7, op := .binOp .lss 3 (.tmp 4) (.tmp 6) 3, type := 4, pos := "ref.go:95", after := #[{ on := 0, ground := .data }, { on := 2, ground := .data }], guard := none }) (v := ?_) rfl (by kernel_rfl) (by kernel_rfl) rfl ?_ ?_); rotate_left; focus (intro W hW; (try dsimp only at hW); go_split_ands; go_simp; (try (simp (disch := omega) only [IntWalk.i64_in]; (try go_simp))); (try (split; (next => omega); (try go_simp))); try rfl; done))
      try simp only [Act.put, List.setIfInBounds_toArray, List.set_cons_zero, List.set_cons_succ]
      ((refine pl_yes (i := 4) (oi := { dst := some 8, op := .move (.tmp 7), type := 4, pos := "ref.go:95", after := #[{ on := 3, ground := .data }], guard := none }) (v := ?_) rfl (by kernel_rfl) (by kernel_rfl) rfl ?_ ?_); rotate_left; focus (intro W hW; (try dsimp only at hW); go_split_ands; go_simp; (try (simp (disch := omega) only [IntWalk.i64_in]; (try go_simp))); (try (split; (next => omega); (try go_simp))); try rfl; done))
      try simp only [Act.put, List.setIfInBounds_toArray, List.set_cons_zero, List.set_cons_succ]
      first | (refine pl_no (i := 5) (oi := { dst := some 9, op := .move (.tmp 0), type := 22, pos := "ref.go:95", after := #[{ on := 4, ground := .guard }], guard := some (4, true) }) rfl (by kernel_rfl) (by kernel_rfl) rfl ?_) | ((refine pl_yes (i := 5) (oi := { dst := some 9, op := .move (.tmp 0), type := 22, pos := "ref.go:95", after := #[{ on := 4, ground := .guard }], guard := some (4, true) }) (v := ?_) rfl (by kernel_rfl) (by kernel_rfl) rfl ?_ ?_); rotate_left; focus (intro W hW; (try dsimp only at hW); go_split_ands; go_simp; (try (simp (disch := omega) only [IntWalk.i64_in]; (try go_simp))); (try (split; (next => omega); (try go_simp))); try rfl; done))
      try simp only [Act.put, List.setIfInBounds_toArray, List.set_cons_zero, List.set_cons_succ]
      first | (refine pl_no (i := 6) (oi := { dst := some 10, op := .move (.tmp 3), type := 3, pos := "ref.go:95", after := #[{ on := 4, ground := .guard }], guard := some (4, true) }) rfl (by kernel_rfl) (by kernel_rfl) rfl ?_) | ((refine pl_yes (i := 6) (oi := { dst := some 10, op := .move (.tmp 3), type := 3, pos := "ref.go:95", after := #[{ on := 4, ground := .guard }], guard := some (4, true) }) (v := ?_) rfl (by kernel_rfl) (by kernel_rfl) rfl ?_ ?_); rotate_left; focus (intro W hW; (try dsimp only at hW); go_split_ands; go_simp; (try (simp (disch := omega) only [IntWalk.i64_in]; (try go_simp))); (try (split; (next => omega); (try go_simp))); try rfl; done))
      try simp only [Act.put, List.setIfInBounds_toArray, List.set_cons_zero, List.set_cons_succ]
      first | (refine pl_no (i := 7) (oi := { dst := some 11, op := .slice 22 (.tmp 9) none (some (.tmp 10)) none, type := 22, pos := "ref.go:95", after := #[{ on := 5, ground := .data }, { on := 6, ground := .data }, { on := 4, ground := .guard }], guard := some (4, true) }) rfl (by kernel_rfl) (by kernel_rfl) rfl ?_) | ((refine pl_yes (i := 7) (oi := { dst := some 11, op := .slice 22 (.tmp 9) none (some (.tmp 10)) none, type := 22, pos := "ref.go:95", after := #[{ on := 5, ground := .data }, { on := 6, ground := .data }, { on := 4, ground := .guard }], guard := some (4, true) }) (v := ?_) rfl (by kernel_rfl) (by kernel_rfl) rfl ?_ ?_); rotate_left; focus (intro W hW; (try dsimp only at hW); go_split_ands; go_simp; (try (simp (disch := omega) only [IntWalk.i64_in]; (try go_simp))); (try (split; (next => omega); (try go_simp))); try rfl; done))
      try simp only [Act.put, List.setIfInBounds_toArray, List.set_cons_zero, List.set_cons_succ]
      first | (refine pl_no (i := 8) (oi := { dst := some 12, op := .move (.tmp 0), type := 22, pos := "ref.go:95", after := #[{ on := 4, ground := .guard }], guard := some (4, true) }) rfl (by kernel_rfl) (by kernel_rfl) rfl ?_) | ((refine pl_yes (i := 8) (oi := { dst := some 12, op := .move (.tmp 0), type := 22, pos := "ref.go:95", after := #[{ on := 4, ground := .guard }], guard := some (4, true) }) (v := ?_) rfl (by kernel_rfl) (by kernel_rfl) rfl ?_ ?_); rotate_left; focus (intro W hW; (try dsimp only at hW); go_split_ands; go_simp; (try (simp (disch := omega) only [IntWalk.i64_in]; (try go_simp))); (try (split; (next => omega); (try go_simp))); try rfl; done))
      try simp only [Act.put, List.setIfInBounds_toArray, List.set_cons_zero, List.set_cons_succ]
      first | (refine pl_no (i := 9) (oi := { dst := some 13, op := .move (.tmp 3), type := 3, pos := "ref.go:95", after := #[{ on := 4, ground := .guard }], guard := some (4, true) }) rfl (by kernel_rfl) (by kernel_rfl) rfl ?_) | ((refine pl_yes (i := 9) (oi := { dst := some 13, op := .move (.tmp 3), type := 3, pos := "ref.go:95", after := #[{ on := 4, ground := .guard }], guard := some (4, true) }) (v := ?_) rfl (by kernel_rfl) (by kernel_rfl) rfl ?_ ?_); rotate_left; focus (intro W hW; (try dsimp only at hW); go_split_ands; go_simp; (try (simp (disch := omega) only [IntWalk.i64_in]; (try go_simp))); (try (split; (next => omega); (try go_simp))); try rfl; done))
      try simp only [Act.put, List.setIfInBounds_toArray, List.set_cons_zero, List.set_cons_succ]
      first | (refine pl_no (i := 10) (oi := { dst := some 14, op := .indexAddr 22 (.tmp 12) (.tmp 13), type := 0, pos := "ref.go:95", after := #[{ on := 8, ground := .data }, { on := 9, ground := .data }, { on := 4, ground := .guard }], guard := some (4, true) }) rfl (by kernel_rfl) (by kernel_rfl) rfl ?_) | ((refine pl_yes (i := 10) (oi := { dst := some 14, op := .indexAddr 22 (.tmp 12) (.tmp 13), type := 0, pos := "ref.go:95", after := #[{ on := 8, ground := .data }, { on := 9, ground := .data }, { on := 4, ground := .guard }], guard := some (4, true) }) (v := ?_) rfl (by kernel_rfl) (by kernel_rfl) rfl ?_ ?_); rotate_left; focus (intro W hW; (try dsimp only at hW); go_split_ands; go_simp; (try (simp (disch := omega) only [IntWalk.i64_in]; (try go_simp))); (try (split; (next => omega); (try go_simp))); try rfl; done))
      try simp only [Act.put, List.setIfInBounds_toArray, List.set_cons_zero, List.set_cons_succ]
      first | (refine pl_no (i := 11) (oi := { dst := some 15, op := .load 52 (.tmp 14), type := 52, pos := "ref.go:95", after := #[{ on := 10, ground := .data }, { on := 4, ground := .guard }], guard := some (4, true) }) rfl (by kernel_rfl) (by kernel_rfl) rfl ?_) | ((refine pl_yes (i := 11) (oi := { dst := some 15, op := .load 52 (.tmp 14), type := 52, pos := "ref.go:95", after := #[{ on := 10, ground := .data }, { on := 4, ground := .guard }], guard := some (4, true) }) (v := ?_) rfl (by kernel_rfl) (by kernel_rfl) rfl ?_ ?_); rotate_left; focus (intro W hW; (try dsimp only at hW); go_split_ands; go_simp; (try (simp (disch := omega) only [IntWalk.i64_in]; (try go_simp))); (try (split; (next => omega); (try go_simp))); try rfl; done))
      try simp only [Act.put, List.setIfInBounds_toArray, List.set_cons_zero, List.set_cons_succ]
      refine pl_no (i := 12) (oi := { dst := some 16, op := .call { callee := .value (.func 101), args := #[.tmp 11, .tmp 15], argTypes := #[22, 52] }, type := 4, pos := "ref.go:95", after := #[{ on := 7, ground := .data }, { on := 11, ground := .data }, { on := 4, ground := .chain }, { on := 4, ground := .guard }], guard := some (4, true) }) rfl (by kernel_rfl) (by kernel_rfl) rfl ?_
      try simp only [Act.put, List.setIfInBounds_toArray, List.set_cons_zero, List.set_cons_succ]
      ((refine pl_yes (i := 13) (oi := { dst := some 17, op := .pick (.tmp 8) (.tmp 16) (.const (.bool false)), type := 4, pos := "ref.go:95", after := #[{ on := 4, ground := .data }, { on := 12, ground := .data }], guard := none }) (v := ?_) rfl (by kernel_rfl) (by kernel_rfl) rfl ?_ ?_); rotate_left; focus (intro W hW; (try dsimp only at hW); go_split_ands; go_simp; (try (simp (disch := omega) only [IntWalk.i64_in]; (try go_simp))); (try (split; (next => omega); (try go_simp))); try rfl; done))
      try simp only [Act.put, List.setIfInBounds_toArray, List.set_cons_zero, List.set_cons_succ]
      refine pl_done (by kernel_rfl)  ?_
      rintro w4 hc4
      go_wp2_with (with_reducible first | refine stop_append ?_ | refine stop_copy ?_ | refine stop_make ?_ | refine stop_lookup ?_ | refine stop_update ?_ | refine stop_slice ?_ | refine stop_range ?_ | refine stop_next ?_ | refine stop_convert ⟨_, rfl⟩ ?_ | refine stop_convertB ⟨_, _, _, rfl⟩ ?_ | refine stop_eqSlice ⟨_, _, rfl⟩ ?_)
      go_ret
      exact ⟨by rw [Hr.out]; rfl, hc.trans hc4⟩
end Go.Proofs.Ytbjpoamnglfjeaa


/- Walks of the document's chapter 5: Same. -/
set_option linter.unusedVariables false
set_option linter.unusedSimpArgs false
namespace Go.Proofs.Ytbjpoamnglfjeaa
open Go.RowKit Cb

set_option maxRecDepth 100000 in
set_option maxHeartbeats 4000000 in
theorem dsame_any (F G : Nat → Prop) (x y : Ent) (v u : Value) (w : World) (hx : Sl F w v x.2.2.1) (hy : Sl G w u y.2.2.1) (hl : x.2.2.1.length ≤ 17592186044416) (hl' : y.2.2.1.length ≤ 17592186044416) :
    Calls Try.prog 102 #[entV x v, entV y u] w fun e w' => e = .returned (.bool (decide (x = y))) ∧ Chg No w w' := by
  obtain ⟨n, k, cut, tag, t, p⟩ := x
  obtain ⟨n', k', cut', tag', t', p'⟩ := y
  simp only at hx hy hl hl'
  have He := Lib.hid (fun W (hW : Chg No w W) => requal_any F G v u cut cut' W (hx.keepNo hW) (hy.keepNo hW) hl hl')
  obtain ⟨A, c, rfl⟩ := hx.slice
  obtain ⟨B, d, rfl⟩ := hy.slice
  clear hx hy
  have hcA := (Chg.refl No w).alloc (.cells #[.int .i64 n, .int .i64 k, .slice A cut.length c, .int .i64 tag, .int .i64 t, .int .i64 p] 52)
  have hcB := (Chg.refl No (w.alloc (.cells #[.int .i64 n, .int .i64 k, .slice A cut.length c, .int .i64 tag, .int .i64 t, .int .i64 p] 52))).alloc (.cells #[.int .i64 n', .int .i64 k', .slice B cut'.length d, .int .i64 tag', .int .i64 t', .int .i64 p'] 52)
  have o1 := hcB.obj (alloc_obj w (.cells #[.int .i64 n, .int .i64 k, .slice A cut.length c, .int .i64 tag, .int .i64 t, .int .i64 p] 52)) (not_no _)
  have o2 := alloc_obj (w.alloc (.cells #[.int .i64 n, .int .i64 k, .slice A cut.length c, .int .i64 tag, .int .i64 t, .int .i64 p] 52)) (.cells #[.int .i64 n', .int .i64 k', .slice B cut'.length d, .int .i64 tag', .int .i64 t', .int .i64 p'] 52)
  have hz : (w.alloc (.cells #[.int .i64 n, .int .i64 k, .slice A cut.length c, .int .i64 tag, .int .i64 t, .int .i64 p] 52)).heap.size = w.heap.size + 1 := by simp
  rw [hz] at o2
  have hc0 := hcA.trans hcB
  have a0 := cell_obj (i := 0) o1 rfl
  have a1 := cell_obj (i := 1) o1 rfl
  have a2 := cell_obj (i := 2) o1 rfl
  have a3 := cell_obj (i := 3) o1 rfl
  have a4 := cell_obj (i := 4) o1 rfl
  have a5 := cell_obj (i := 5) o1 rfl
  have b0 := cell_obj (i := 0) o2 rfl
  have b1 := cell_obj (i := 1) o2 rfl
  have b2 := cell_obj (i := 2) o2 rfl
  have b3 := cell_obj (i := 3) o2 rfl
  have b4 := cell_obj (i := 4) o2 rfl
  have b5 := cell_obj (i := 5) o2 rfl
  clear hcA hcB hz o1 o2
  obtain ⟨R, hR⟩ : ∃ R, R = decide ((n, k, cut, tag, t, p) = (n', k', cut', tag', t', p')) := ⟨_, rfl⟩
  rw [← hR]
  have HR := Lib.hid hR
  clear hR
  unfold entV
  simp only
  by_cases k1 : n = n'
  case neg =>
    have Hr := Lib.hid (show R = false from by rw [HR.out]; exact decide_eq_false (fun h => k1 (congrArg (fun z => z.1) h)))
    have k2 : (n == n') = false := beq_false_of_ne k1
    clear k1 HR
    go_enter Try.func102, Try.ntmps102
    go_wp2_with (with_reducible first | refine stop_append ?_ | refine stop_copy ?_ | refine stop_make ?_ | refine stop_lookup ?_ | refine stop_update ?_ | refine stop_slice ?_ | refine stop_range ?_ | refine stop_next ?_ | refine stop_convert ⟨_, rfl⟩ ?_ | refine stop_convertB ⟨_, _, _, rfl⟩ ?_ | refine stop_eqSlice ⟨_, _, rfl⟩ ?_)
    go_ret
    exact ⟨by rw [Hr.out]; rfl, hc0⟩
  subst k1
  by_cases k1 : k = k'
  case neg =>
    have Hr := Lib.hid (show R = false from by rw [HR.out]; exact decide_eq_false (fun h => k1 (congrArg (fun z => z.2.1) h)))
    have k2 : (k == k') = false := beq_false_of_ne k1
    clear k1 HR
    go_enter Try.func102, Try.ntmps102
    go_wp2_with (with_reducible first | refine stop_append ?_ | refine stop_copy ?_ | refine stop_make ?_ | refine stop_lookup ?_ | refine stop_update ?_ | refine stop_slice ?_ | refine stop_range ?_ | refine stop_next ?_ | refine stop_convert ⟨_, rfl⟩ ?_ | refine stop_convertB ⟨_, _, _, rfl⟩ ?_ | refine stop_eqSlice ⟨_, _, rfl⟩ ?_)
    go_ret
    exact ⟨by rw [Hr.out]; rfl, hc0⟩
  subst k1
  by_cases k1 : tag = tag'
  case neg =>
    have Hr := Lib.hid (show R = false from by rw [HR.out]; exact decide_eq_false (fun h => k1 (congrArg (fun z => z.2.2.2.1) h)))
    have k2 : (tag == tag') = false := beq_false_of_ne k1
    clear k1 HR
    go_enter Try.func102, Try.ntmps102
    go_wp2_with (with_reducible first | refine stop_append ?_ | refine stop_copy ?_ | refine stop_make ?_ | refine stop_lookup ?_ | refine stop_update ?_ | refine stop_slice ?_ | refine stop_range ?_ | refine stop_next ?_ | refine stop_convert ⟨_, rfl⟩ ?_ | refine stop_convertB ⟨_, _, _, rfl⟩ ?_ | refine stop_eqSlice ⟨_, _, rfl⟩ ?_)
    go_ret
    exact ⟨by rw [Hr.out]; rfl, hc0⟩
  subst k1
  by_cases k1 : t = t'
  case neg =>
    have Hr := Lib.hid (show R = false from by rw [HR.out]; exact decide_eq_false (fun h => k1 (congrArg (fun z => z.2.2.2.2.1) h)))
    have k2 : (t == t') = false := beq_false_of_ne k1
    clear k1 HR
    go_enter Try.func102, Try.ntmps102
    go_wp2_with (with_reducible first | refine stop_append ?_ | refine stop_copy ?_ | refine stop_make ?_ | refine stop_lookup ?_ | refine stop_update ?_ | refine stop_slice ?_ | refine stop_range ?_ | refine stop_next ?_ | refine stop_convert ⟨_, rfl⟩ ?_ | refine stop_convertB ⟨_, _, _, rfl⟩ ?_ | refine stop_eqSlice ⟨_, _, rfl⟩ ?_)
    go_ret
    exact ⟨by rw [Hr.out]; rfl, hc0⟩
  subst k1
  by_cases k1 : p = p'
  case neg =>
    have Hr := Lib.hid (show R = false from by rw [HR.out]; exact decide_eq_false (fun h => k1 (congrArg (fun z => z.2.2.2.2.2) h)))
    have k2 : (p == p') = false := beq_false_of_ne k1
    clear k1 HR
    go_enter Try.func102, Try.ntmps102
    go_wp2_with (with_reducible first | refine stop_append ?_ | refine stop_copy ?_ | refine stop_make ?_ | refine stop_lookup ?_ | refine stop_update ?_ | refine stop_slice ?_ | refine stop_range ?_ | refine stop_next ?_ | refine stop_convert ⟨_, rfl⟩ ?_ | refine stop_convertB ⟨_, _, _, rfl⟩ ?_ | refine stop_eqSlice ⟨_, _, rfl⟩ ?_)
    go_ret
    exact ⟨by rw [Hr.out]; rfl, hc0⟩
  subst k1
  have Hr := Lib.hid (show R = decide (cut = cut') from by rw [HR.out]; simp)
  clear HR
  go_enter Try.func102, Try.ntmps102
  go_wp2_with (with_reducible first | refine stop_append ?_ | refine stop_copy ?_ | refine stop_make ?_ | refine stop_lookup ?_ | refine stop_update ?_ | refine stop_slice ?_ | refine stop_range ?_ | refine stop_next ?_ | refine stop_convert ⟨_, rfl⟩ ?_ | refine stop_convertB ⟨_, _, _, rfl⟩ ?_ | refine stop_eqSlice ⟨_, _, rfl⟩ ?_)
  refine (He.out _ hc0).mono ?_
  rintro e w1 ⟨rfl, hc1⟩
  go_wp2_with (with_reducible first | refine stop_append ?_ | refine stop_copy ?_ | refine stop_make ?_ | refine stop_lookup ?_ | refine stop_update ?_ | refine stop_slice ?_ | refine stop_range ?_ | refine stop_next ?_ | refine stop_convert ⟨_, rfl⟩ ?_ | refine stop_convertB ⟨_, _, _, rfl⟩ ?_ | refine stop_eqSlice ⟨_, _, rfl⟩ ?_)
  go_ret
  exact ⟨by rw [Hr.out]; rfl, hc0.trans hc1⟩
end Go.Proofs.Ytbjpoamnglfjeaa


/- Walks of the document's chapter 5: Last, SameAll. -/
set_option linter.unusedVariables false
set_option linter.unusedSimpArgs false
namespace Go.Proofs.Ytbjpoamnglfjeaa
open Go.RowKit Cb

theorem lastE_fold (l : List Ent) (z : List Int) : l.foldl lastE z = (lastO l).getD z := by
  suffices ∀ (l : List Ent) (a : Option (List Int)) (z : List Int), l.foldl lastE (a.getD z) = (l.foldl (fun a e => if e.2.1 = 1 then some e.2.2.1 else a) a).getD z from this l none z
  intro l
  induction l with
  | nil => intro a z; rfl
  | cons e r ih =>
    intro a z
    rw [List.foldl_cons, List.foldl_cons]
    unfold lastE
    split
    · exact ih (some e.2.2.1) z
    · exact ih a z
set_option maxRecDepth 100000 in
set_option maxHeartbeats 4000000 in
theorem dlast_any (v : Value) (l : List Ent) (n : Nat) (w : World) (hs : Sl No w v l) (hl : l.length ≤ 2199023255488) (hcb : ∀ e ∈ l, e.2.2.1.length ≤ 17592186043904) (h1 : 1 ≤ n) (h8 : n ≤ 8) :
    Calls Try.prog 104 #[v, .int .i64 n] w fun e w' => ∃ v', e = .returned v' ∧ Chg No w w' ∧ Sl No w' v' (lastF l n) := by
  have Hch := Lib.hid (dchain_any No v l w hs hl hcb)
  have Hs := Lib.hid (fun W (hW : Chg No w W) => hs.keepNo hW)
  have Hm := Lib.hid (chain_le l 0 [])
  have HL := Lib.hid (show lastF l n = (lastO (l.take (chainF l 0 []).1)).getD (List.replicate n 0) from lastE_fold _ _)
  obtain ⟨A, c, rfl⟩ := hs.slice
  clear hs hcb
  generalize lastF l n = R at *
  generalize (chainF l 0 []).1 = m at *
  have hm : m ≤ l.length := by have := Hm.out; omega
  clear Hm
  go_enter Try.func104, Try.ntmps104
  go_wp2_with (with_reducible first | refine stop_append ?_ | refine stop_copy ?_ | refine stop_make ?_ | refine stop_lookup ?_ | refine stop_update ?_ | refine stop_slice ?_ | refine stop_range ?_ | refine stop_next ?_ | refine stop_convert ⟨_, rfl⟩ ?_ | refine stop_convertB ⟨_, _, _, rfl⟩ ?_ | refine stop_eqSlice ⟨_, _, rfl⟩ ?_)
  refine Hch.out.mono ?_
  rintro e w1 ⟨rfl, hc1⟩
  go_wp2_with (with_reducible first | refine stop_append ?_ | refine stop_copy ?_ | refine stop_make ?_ | refine stop_lookup ?_ | refine stop_update ?_ | refine stop_slice ?_ | refine stop_range ?_ | refine stop_next ?_ | refine stop_convert ⟨_, rfl⟩ ?_ | refine stop_convertB ⟨_, _, _, rfl⟩ ?_ | refine stop_eqSlice ⟨_, _, rfl⟩ ?_)
  go_loopw [5] (fun v5 wr => ∃ (j : Nat) (z : Int), j ≤ m ∧ z = (j : Int) - 1 ∧ v5 = .int .i64 z ∧ Chg No w1 wr ∧ ∀ x ∈ (l.take m).drop j, x.2.1 ≠ 1) (fun v5 _ => (intOf v5 + 1).toNat)
  case atStart => exact ⟨m, _, by omega, rfl, rfl, Chg.refl _ _, by simp⟩
  case round =>
    obtain ⟨j, z, hj, hz, rfl, hc, hall⟩ := hrel
    have Hall := Lib.hid hall
    have hcr := hc1.trans hc
    clear hall
    rcases j with _ | i
    · obtain rfl : z = -1 := by omega
      clear hz
      have Hfin := Lib.hid (show R = List.replicate n 0 by rw [HL.out, lastO_skip (l.take m) 0 Hall.out]; rfl)
      have h1i : ¬ (n : Int) < 1 := by omega
      have h8i : ¬ 8 < (n : Int) := by omega
      go_wp2_with (with_reducible first | refine stop_append ?_ | refine stop_copy ?_ | refine stop_make ?_ | refine stop_lookup ?_ | refine stop_update ?_ | refine stop_slice ?_ | refine stop_range ?_ | refine stop_next ?_ | refine stop_convert ⟨_, rfl⟩ ?_ | refine stop_convertB ⟨_, _, _, rfl⟩ ?_ | refine stop_eqSlice ⟨_, _, rfl⟩ ?_)
      refine step_make (α := Int) No w.heap.size 0 Try.underlying46 vinfo_int rfl (by decide) rfl rfl (by omega) (by omega) hcr.size ?_
      intro v w2 hown hob hc2
      have hsl : Sl No w2 v (List.replicate n (0 : Int)) := hown.slFlat (fun k hk f => f.elim)
      obtain ⟨A2, c2, rfl⟩ := hown.slice
      rw [List.length_replicate] at hsl ⊢
      have Hsl := Lib.hid hsl
      clear hsl hown hob
      go_wp2_with (with_reducible first | refine stop_append ?_ | refine stop_copy ?_ | refine stop_make ?_ | refine stop_lookup ?_ | refine stop_update ?_ | refine stop_slice ?_ | refine stop_range ?_ | refine stop_next ?_ | refine stop_convert ⟨_, rfl⟩ ?_ | refine stop_convertB ⟨_, _, _, rfl⟩ ?_ | refine stop_eqSlice ⟨_, _, rfl⟩ ?_)
      go_ret
      exact ⟨_, rfl, hcr.trans hc2, by rw [Hfin.out]; exact Hsl.out⟩
    · obtain rfl : z = (i : Int) := by omega
      clear hz
      have hlt : i < l.length := by omega
      obtain ⟨b, o, vc, rfl, -, hbl, sc, e0, e1, e2, -, -, -⟩ := ent_get (Hs.out wr hcr) i hlt
      have Hdr := Lib.hid (show (l.take m).drop i = l[i] :: (l.take m).drop (i + 1) by rw [List.drop_eq_getElem_cons (show i < (l.take m).length by simp; omega), List.getElem_take])
      have Htk := Lib.hid (show (l.take m).take (i + 1) = (l.take m).take i ++ [l[i]] by rw [List.take_succ_eq_append_getElem (show i < (l.take m).length by simp; omega), List.getElem_take])
      have Hsc := Lib.hid sc
      generalize l[i] = y at *
      obtain ⟨yn, yk, yc, yr⟩ := y
      simp only at e0 e1 e2 sc Hsc
      obtain ⟨C, cc, rfl⟩ := sc.slice
      clear sc
      by_cases hy : yk = 1
      · subst hy
        have Hfin := Lib.hid (show R = yc by rw [HL.out, lastO_skip (l.take m) (i + 1) Hall.out, Htk.out, lastO_app, if_pos rfl]; rfl)
        go_wp2_with (with_reducible first | refine stop_append ?_ | refine stop_copy ?_ | refine stop_make ?_ | refine stop_lookup ?_ | refine stop_update ?_ | refine stop_slice ?_ | refine stop_range ?_ | refine stop_next ?_ | refine stop_convert ⟨_, rfl⟩ ?_ | refine stop_convertB ⟨_, _, _, rfl⟩ ?_ | refine stop_eqSlice ⟨_, _, rfl⟩ ?_)
        go_ret
        exact ⟨_, rfl, hcr, by rw [Hfin.out]; exact Hsc.out⟩
      · have k1 : (yk == 1) = false := beq_false_of_ne hy
        have Hy := Lib.hid hy
        clear hy
        go_wp2_with (with_reducible first | refine stop_append ?_ | refine stop_copy ?_ | refine stop_make ?_ | refine stop_lookup ?_ | refine stop_update ?_ | refine stop_slice ?_ | refine stop_range ?_ | refine stop_next ?_ | refine stop_convert ⟨_, rfl⟩ ?_ | refine stop_convertB ⟨_, _, _, rfl⟩ ?_ | refine stop_eqSlice ⟨_, _, rfl⟩ ?_)
        go_roundw
        case rel => exact ⟨i, _, by omega, rfl, by first | rfl | trivial, hc, by
          rw [Hdr.out]
          intro x hx
          rcases List.mem_cons.1 hx with rfl | hx
          · exact Hy.out
          · exact Hall.out x hx⟩
        case measure => first | (simp [intOf]; done) | (simp [intOf]; omega)
set_option maxRecDepth 100000 in
set_option maxHeartbeats 4000000 in
theorem dsameall_any (F G : Nat → Prop) (v u : Value) (l r : List Ent) (w : World) (h : Sl F w v l) (h' : Sl G w u r) (hl : l.length ≤ 2199023255488) (hl' : r.length ≤ 2199023255488) (hb : ∀ e ∈ l, e.2.2.1.length ≤ 17592186043904) (hb' : ∀ e ∈ r, e.2.2.1.length ≤ 17592186043904) :
    Calls Try.prog 78 #[v, u] w fun e w' => e = .returned (.bool (decide (l = r))) ∧ Chg No w w' := by
  have Hs := Lib.hid (fun W (hW : Chg No w W) => h.keepNo hW)
  have Hs' := Lib.hid (fun W (hW : Chg No w W) => h'.keepNo hW)
  have Hb := Lib.hid hb
  have Hb' := Lib.hid hb'
  obtain ⟨A, c, rfl⟩ := h.slice
  obtain ⟨B, d, rfl⟩ := h'.slice
  clear h h' hb hb'
  obtain ⟨R, hR⟩ : ∃ R, R = decide (l = r) := ⟨_, rfl⟩
  rw [← hR]
  have HR := Lib.hid hR
  clear hR
  by_cases k4 : l.length = r.length
  case neg =>
    have Hr := Lib.hid (show R = false by rw [HR.out]; exact decide_eq_false (fun h => k4 (by rw [h])))
    have k2 : ((l.length : Int) == r.length) = false := beq_false_of_ne (by omega)
    have k5 : (l.length == r.length) = false := beq_false_of_ne k4
    clear k4
    go_enter Try.func78, Try.ntmps78
    go_wp2_with (with_reducible first | refine stop_append ?_ | refine stop_copy ?_ | refine stop_make ?_ | refine stop_lookup ?_ | refine stop_update ?_ | refine stop_slice ?_ | refine stop_range ?_ | refine stop_next ?_ | refine stop_convert ⟨_, rfl⟩ ?_ | refine stop_convertB ⟨_, _, _, rfl⟩ ?_ | refine stop_eqSlice ⟨_, _, rfl⟩ ?_)
    go_ret
    exact ⟨by rw [Hr.out]; rfl, Chg.refl _ _⟩
  have K4 := Lib.hid k4
  rw [← k4] at Hs' ⊢
  clear k4
  go_enter Try.func78, Try.ntmps78
  go_wp2_with (with_reducible first | refine stop_append ?_ | refine stop_copy ?_ | refine stop_make ?_ | refine stop_lookup ?_ | refine stop_update ?_ | refine stop_slice ?_ | refine stop_range ?_ | refine stop_next ?_ | refine stop_convert ⟨_, rfl⟩ ?_ | refine stop_convertB ⟨_, _, _, rfl⟩ ?_ | refine stop_eqSlice ⟨_, _, rfl⟩ ?_)
  go_loopw [5] (fun v5 wr => ∃ k : Nat, k ≤ l.length ∧ v5 = .int .i64 k ∧ Chg No w wr ∧ l.take k = r.take k) (fun v5 _ => l.length - (intOf v5).toNat)
  case atStart => exact ⟨0, by omega, rfl, Chg.refl _ _, by simp⟩
  case round =>
    obtain ⟨k, hk, rfl, hc, hall⟩ := hrel
    have Hall := Lib.hid hall
    clear hall
    by_cases hlt : k < l.length
    · have hlt' : k < r.length := by have := K4.out; omega
      obtain ⟨b, o, vc, rfl, -, hbl, sc, e0, e1, e2, e3, e4, e5⟩ := ent_get (Hs.out wr hc) k hlt
      obtain ⟨b', o', vc', rfl, -, hbl', sc', f0, f1, f2, f3, f4, f5⟩ := ent_get (Hs'.out wr hc) k hlt'
      have He := Lib.hid (fun W (hW : Chg No wr W) => dsame_any F G l[k] r[k] vc vc' W (sc.keepNo hW) (sc'.keepNo hW) (by have := Hb.out _ (List.getElem_mem hlt); omega) (by have := Hb'.out _ (List.getElem_mem hlt'); omega))
      have Htk := Lib.hid (show l[k] = r[k] → l.take (k + 1) = r.take (k + 1) from fun h => by rw [List.take_succ_eq_append_getElem hlt, List.take_succ_eq_append_getElem hlt', Hall.out, h])
      have Hbad := Lib.hid (show ¬ l[k] = r[k] → R = false from fun h => by rw [HR.out]; exact decide_eq_false (fun hh => h (by subst hh; rfl)))
      obtain ⟨eb, heb⟩ : ∃ b, b = decide (l[k] = r[k]) := ⟨_, rfl⟩
      rw [← heb] at He
      have Heb := Lib.hid heb
      clear heb
      generalize l[k] = x at *
      generalize r[k] = y at *
      obtain ⟨x0, x1, x2, x3, x4, x5⟩ := x
      obtain ⟨y0, y1, y2, y3, y4, y5⟩ := y
      unfold entV at He
      simp only at sc e0 e1 e2 e3 e4 e5 sc' f0 f1 f2 f3 f4 f5 He
      obtain ⟨C, cc, rfl⟩ := sc.slice
      obtain ⟨D, dd, rfl⟩ := sc'.slice
      clear sc sc'
      have cd := (Chg.refl No wr).drew
      go_wp2_with (with_reducible first | refine stop_append ?_ | refine stop_copy ?_ | refine stop_make ?_ | refine stop_lookup ?_ | refine stop_update ?_ | refine stop_slice ?_ | refine stop_range ?_ | refine stop_next ?_ | refine stop_convert ⟨_, rfl⟩ ?_ | refine stop_convertB ⟨_, _, _, rfl⟩ ?_ | refine stop_eqSlice ⟨_, _, rfl⟩ ?_)
      have HS := Lib.hid (show ∀ W : World, Chg No wr W → (fun W => ((W.cell? ⟨b, o + k * 6, none⟩ = some (.int .i64 x0) ∧ W.cell? ⟨b, o + k * 6 + 1, none⟩ = some (.int .i64 x1) ∧ W.cell? ⟨b, o + k * 6 + 2, none⟩ = some (.slice C x2.length cc)) ∧ (W.cell? ⟨b, o + k * 6 + 3, none⟩ = some (.int .i64 x3) ∧ W.cell? ⟨b, o + k * 6 + 4, none⟩ = some (.int .i64 x4) ∧ W.cell? ⟨b, o + k * 6 + 5, none⟩ = some (.int .i64 x5))) ∧ ((W.cell? ⟨b', o' + k * 6, none⟩ = some (.int .i64 y0) ∧ W.cell? ⟨b', o' + k * 6 + 1, none⟩ = some (.int .i64 y1) ∧ W.cell? ⟨b', o' + k * 6 + 2, none⟩ = some (.slice D y2.length dd)) ∧ (W.cell? ⟨b', o' + k * 6 + 3, none⟩ = some (.int .i64 y3) ∧ W.cell? ⟨b', o' + k * 6 + 4, none⟩ = some (.int .i64 y4) ∧ W.cell? ⟨b', o' + k * 6 + 5, none⟩ = some (.int .i64 y5))) ∧ Chg No wr W) W from fun W hW => ⟨⟨⟨hW.cell e0 (not_no _), hW.cell e1 (not_no _), hW.cell e2 (not_no _)⟩, ⟨hW.cell e3 (not_no _), hW.cell e4 (not_no _), hW.cell e5 (not_no _)⟩⟩, ⟨⟨hW.cell f0 (not_no _), hW.cell f1 (not_no _), hW.cell f2 (not_no _)⟩, ⟨hW.cell f3 (not_no _), hW.cell f4 (not_no _), hW.cell f5 (not_no _)⟩⟩, hW⟩)
      refine pl_start (fun W => ((W.cell? ⟨b, o + k * 6, none⟩ = some (.int .i64 x0) ∧ W.cell? ⟨b, o + k * 6 + 1, none⟩ = some (.int .i64 x1) ∧ W.cell? ⟨b, o + k * 6 + 2, none⟩ = some (.slice C x2.length cc)) ∧ (W.cell? ⟨b, o + k * 6 + 3, none⟩ = some (.int .i64 x3) ∧ W.cell? ⟨b, o + k * 6 + 4, none⟩ = some (.int .i64 x4) ∧ W.cell? ⟨b, o + k * 6 + 5, none⟩ = some (.int .i64 x5))) ∧ ((W.cell? ⟨b', o' + k * 6, none⟩ = some (.int .i64 y0) ∧ W.cell? ⟨b', o' + k * 6 + 1, none⟩ = some (.int .i64 y1) ∧ W.cell? ⟨b', o' + k * 6 + 2, none⟩ = some (.slice D y2.length dd)) ∧ (W.cell? ⟨b', o' + k * 6 + 3, none⟩ = some (.int .i64 y3) ∧ W.cell? ⟨b', o' + k * 6 + 4, none⟩ = some (.int .i64 y4) ∧ W.cell? ⟨b', o' + k * 6 + 5, none⟩ = some (.int .i64 y5))) ∧ Chg No wr W) (by kernel_rfl) (by kernel_rfl) (HS.out _ cd) ?_
      ((refine pl_yes (i := 0) (oi := { dst := some 17, op := .move (.tmp 0), type := 22, pos := "ref.go:120", after := #[], guard := none }) (v := ?_) rfl (by kernel_rfl) (by kernel_rfl) rfl ?_ ?_); rotate_left; focus (intro W hW; (try dsimp only at hW); go_split_ands; go_simp; (try (simp (disch := omega) only [IntWalk.i64_in]; (try go_simp))); (try (split; (next => omega); (try go_simp))); try rfl; done))
      try simp only [Act.put, List.setIfInBounds_toArray, List.set_cons_zero, List.set_cons_succ]
      ((refine pl_yes (i := 1) (oi := { dst := some 18, op := .move (.tmp 5), type := 3, pos := "ref.go:120", after := #[], guard := none }) (v := ?_) rfl (by kernel_rfl) (by kernel_rfl) rfl ?_ ?_); rotate_left; focus (intro W hW; (try dsimp only at hW); go_split_ands; go_simp; (try (simp (disch := omega) only [IntWalk.i64_in]; (try go_simp))); (try (split; (next => omega); (try go_simp))); try rfl; done))
      try simp only [Act.put, List.setIfInBounds_toArray, List.set_cons_zero, List.set_cons_succ]
      ((refine pl_yes (i := 2) (oi := { dst := some 19, op := .indexAddr 22 (.tmp 17) (.tmp 18), type := 0, pos := "ref.go:120", after := #[{ on := 0, ground := .data }, { on := 1, ground := .data }], guard := none }) (v := ?_) rfl (by kernel_rfl) (by kernel_rfl) rfl ?_ ?_); rotate_left; focus (intro W hW; (try dsimp only at hW); go_split_ands; go_simp; (try (simp (disch := omega) only [IntWalk.i64_in]; (try go_simp))); (try (split; (next => omega); (try go_simp))); try rfl; done))
      try simp only [Act.put, List.setIfInBounds_toArray, List.set_cons_zero, List.set_cons_succ]
      ((refine pl_yes (i := 3) (oi := { dst := some 20, op := .load 52 (.tmp 19), type := 52, pos := "ref.go:120", after := #[{ on := 2, ground := .data }], guard := none }) (v := ?_) rfl (by kernel_rfl) (by kernel_rfl) rfl ?_ ?_); rotate_left; focus (intro W hW; (try dsimp only at hW); go_split_ands; go_simp; (try (simp (disch := omega) only [IntWalk.i64_in]; (try go_simp))); (try (split; (next => omega); (try go_simp))); try rfl; done))
      try simp only [Act.put, List.setIfInBounds_toArray, List.set_cons_zero, List.set_cons_succ]
      ((refine pl_yes (i := 4) (oi := { dst := some 21, op := .move (.tmp 1), type := 22, pos := "ref.go:120", after := #[], guard := none }) (v := ?_) rfl (by kernel_rfl) (by kernel_rfl) rfl ?_ ?_); rotate_left; focus (intro W hW; (try dsimp only at hW); go_split_ands; go_simp; (try (simp (disch := omega) only [IntWalk.i64_in]; (try go_simp))); (try (split; (next => omega); (try go_simp))); try rfl; done))
      try simp only [Act.put, List.setIfInBounds_toArray, List.set_cons_zero, List.set_cons_succ]
      ((refine pl_yes (i := 5) (oi := { dst := some 22, op := .move (.tmp 5), type := 3, pos := "ref.go:120", after := #[], guard := none }) (v := ?_) rfl (by kernel_rfl) (by kernel_rfl) rfl ?_ ?_); rotate_left; focus (intro W hW; (try dsimp only at hW); go_split_ands; go_simp; (try (simp (disch := omega) only [IntWalk.i64_in]; (try go_simp))); (try (split; (next => omega); (try go_simp))); try rfl; done))
      try simp only [Act.put, List.setIfInBounds_toArray, List.set_cons_zero, List.set_cons_succ]
      ((refine pl_yes (i := 6) (oi := { dst := some 23, op := .indexAddr 22 (.tmp 21) (.tmp 22), type := 0, pos := "ref.go:120", after := #[{ on := 4, ground := .data }, { on := 5, ground := .data }], guard := none }) (v := ?_) rfl (by kernel_rfl) (by kernel_rfl) rfl ?_ ?_); rotate_left; focus (intro W hW; (try dsimp only at hW); go_split_ands; go_simp; (try (simp (disch := omega) only [IntWalk.i64_in]; (try go_simp))); (try (split; (next => omega); (try go_simp))); try rfl; done))
      try simp only [Act.put, List.setIfInBounds_toArray, List.set_cons_zero, List.set_cons_succ]
      ((refine pl_yes (i := 7) (oi := { dst := some 24, op := .load 52 (.tmp 23), type := 52, pos := "ref.go:120", after := #[{ on := 6, ground := .data }], guard := none }) (v := ?_) rfl (by kernel_rfl) (by kernel_rfl) rfl ?_ ?_); rotate_left; focus (intro W hW; (try dsimp only at hW); go_split_ands; go_simp; (try (simp (disch := omega) only [IntWalk.i64_in]; (try go_simp))); (try (split; (next => omega); (try go_simp))); try rfl; done))
      try simp only [Act.put, List.setIfInBounds_toArray, List.set_cons_zero, List.set_cons_succ]
      refine pl_call (i := 8) (oi := { dst := some 25, op := .call { callee := .value (.func 102), args := #[.tmp 20, .tmp 24], argTypes := #[52, 52] }, type := 4, pos := "ref.go:120", after := #[{ on := 3, ground := .data }, { on := 7, ground := .data }], guard := none }) (.bool eb) rfl (by kernel_rfl) (by kernel_rfl) rfl (by exact (fun W hW => (He.out W hW.2.2).mono fun e w' h => ⟨h.1, HS.out _ (hW.2.2.trans h.2)⟩)) (fun W => by kernel_rfl) ?_
      try simp only [Act.put, List.setIfInBounds_toArray, List.set_cons_zero, List.set_cons_succ]
      ((refine pl_yes (i := 9) (oi := { dst := some 26, op := .unOp .not 4 (.tmp 25), type := 4, pos := "ref.go:120", after := #[{ on := 8, ground := .data }], guard := none }) (v := ?_) rfl (by kernel_rfl) (by kernel_rfl) rfl ?_ ?_); rotate_left; focus (intro W hW; (try dsimp only at hW); go_split_ands; go_simp; (try (simp (disch := omega) only [IntWalk.i64_in]; (try go_simp))); (try (split; (next => omega); (try go_simp))); try rfl; done))
      try simp only [Act.put, List.setIfInBounds_toArray, List.set_cons_zero, List.set_cons_succ]
      refine pl_done (by kernel_rfl)  ?_
      rintro w4 ⟨-, -, hc4⟩
      have hcw4 := hc.trans hc4
      clear e0 e1 e2 e3 e4 e5 f0 f1 f2 f3 f4 f5
      rcases eb with _ | _
      · have Hr := Lib.hid (Hbad.out (of_decide_eq_false Heb.out.symm))
        go_wp2_with (with_reducible first | refine stop_append ?_ | refine stop_copy ?_ | refine stop_make ?_ | refine stop_lookup ?_ | refine stop_update ?_ | refine stop_slice ?_ | refine stop_range ?_ | refine stop_next ?_ | refine stop_convert ⟨_, rfl⟩ ?_ | refine stop_convertB ⟨_, _, _, rfl⟩ ?_ | refine stop_eqSlice ⟨_, _, rfl⟩ ?_)
        go_ret
        exact ⟨by rw [Hr.out]; rfl, hcw4⟩
      · have Hg := Lib.hid (Htk.out (of_decide_eq_true Heb.out.symm))
        go_wp2_with (with_reducible first | refine stop_append ?_ | refine stop_copy ?_ | refine stop_make ?_ | refine stop_lookup ?_ | refine stop_update ?_ | refine stop_slice ?_ | refine stop_range ?_ | refine stop_next ?_ | refine stop_convert ⟨_, rfl⟩ ?_ | refine stop_convertB ⟨_, _, _, rfl⟩ ?_ | refine stop_eqSlice ⟨_, _, rfl⟩ ?_)
        go_roundw
        case rel => exact ⟨k + 1, by omega, by go_num, hcw4, Hg.out⟩
        case measure => simp [intOf]; omega
    · obtain rfl : k = l.length := by omega
      have Hr := Lib.hid (show R = true by
        rw [HR.out]
        have := Hall.out
        rw [List.take_length, K4.out, List.take_length] at this
        exact decide_eq_true this)
      clear K4
      go_wp2_with (with_reducible first | refine stop_append ?_ | refine stop_copy ?_ | refine stop_make ?_ | refine stop_lookup ?_ | refine stop_update ?_ | refine stop_slice ?_ | refine stop_range ?_ | refine stop_next ?_ | refine stop_convert ⟨_, rfl⟩ ?_ | refine stop_convertB ⟨_, _, _, rfl⟩ ?_ | refine stop_eqSlice ⟨_, _, rfl⟩ ?_)
      go_ret
      exact ⟨by rw [Hr.out]; rfl, hc⟩
end Go.Proofs.Ytbjpoamnglfjeaa


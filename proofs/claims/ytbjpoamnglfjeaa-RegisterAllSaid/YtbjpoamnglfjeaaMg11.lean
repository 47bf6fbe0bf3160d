/- Texts RdcL, RdcM. -/
import Derived.Test.YtbjpoamnglfjeaaMg10
/- Walk of the law's stands: the register's rows and the document's are the same. -/
set_option linter.unusedVariables false
set_option linter.unusedSimpArgs false
namespace Go.Proofs.Ytbjpoamnglfjeaa
open Go.RowKit Cb

/-- The last row has no tail yet. -/
def LastE (rows : List Rw) : Prop := ∀ i (h : i < rows.length), i + 1 = rows.length → rows[i].2.2.2.1 = []
theorem install_lastE {rows : List Rw} (t : Int) (q : List Int) (s : List (List Int)) (l : List Ent) (hi : 0 < rows.length) (h : LastE rows) : LastE (installF rows t q s l).2 := by
  rcases installF_cases rows t q s l hi with h1 | ⟨-, -, -, -, -, h6⟩
  · rw [h1]; exact h
  · have h7 : (installF rows t q s l).2 = newR rows t q s l := by rw [h6]; rfl
    rw [h7]
    intro i hi' he
    have hn := newR_len rows t q s l
    rw [newR_get, if_pos (by omega)]
theorem atR_out {rows : List Rw} {t : Int} (hi : 0 < rows.length) (h : t < firstR rows ∨ firstR rows + (rows.length - 1 : Nat) < t) : atR rows t = none := by
  unfold atR
  rw [if_neg (by omega)]
set_option maxRecDepth 100000 in
set_option maxHeartbeats 8000000 in
theorem stands_any (B p : Nat) (vL vT : Value) (rows : List Rw) (w : World) (hreg : RegS w B p rows) (hri : RegI rows) (hle : LastE rows) (hr : RefS No w vL vT rows) :
    Calls Try.prog 41 #[.pointer (some ⟨p, 0, none⟩), regV vL vT] w fun e w' => e = .returned (.bool true) ∧ Chg No w w' := by
  have hi0 := hri.1.1
  have h64 := hri.1.2.1
  obtain ⟨hb1, hb2⟩ := first_bound hri.1
  have Hfst := Lib.hid (fun W (hW : Chg No w W) => rfirst_any B p rows W (hreg.keepNo hW) hri.1)
  have Hcur := Lib.hid (fun W (hW : Chg No w W) => rcurrent_any B p rows W (hreg.keepNo hW) hri.1)
  have Hrow := Lib.hid (fun m (hm : m < rows.length) W (hW : Chg No w W) => rrow_yes B p rows W (hreg.keepNo hW) hri.1 m hm)
  have Hrno := Lib.hid (fun t ht W (hW : Chg No w W) => rrow_no B p rows W (hreg.keepNo hW) hri.1 t ht)
  have Hsy := Lib.hid (fun m (hm : m < rows.length) W (hW : Chg No w W) => rstart_yes B p rows W (hreg.keepNo hW) hri.1 m hm)
  have Hsn := Lib.hid (fun t ht W (hW : Chg No w W) => rstart_no B p rows W (hreg.keepNo hW) hri.1 t ht)
  have Hds := Lib.hid (fun t W (hW : Chg No w W) => dstart_any vL vT rows t W (hr.keepNo hW) hri.1)
  have Hdf := Lib.hid (fun t W (hW : Chg No w W) => dfind_any vL vT rows t W (hr.keepNo hW) hri.1)
  have HrF := Lib.hid (fun W (hW : Chg No w W) => hr.keepNo hW)
  have Hri := Lib.hid hri
  have Hle := Lib.hid hle
  have Hat := Lib.hid (fun i (h : i < rows.length) => atR_in (rows := rows) (t := firstR rows + i) h rfl)
  have Hout := Lib.hid (fun t ht => atR_out (rows := rows) (t := t) hi0 ht)
  obtain ⟨AL, cL, rfl⟩ := hr.l.slice
  obtain ⟨AT, cT, rfl⟩ := hr.t.slice
  obtain ⟨bL, oL, vq0, vs0, rfl, hbL, -, -, e0, -, -⟩ := cfg_get hr.l 0 hi0
  obtain ⟨bL', oL', vq1, vs1, eL, -, -, -, eM, -, -⟩ := cfg_get hr.l (rows.length - 1) (by omega)
  cases eL
  rw [first_get hri.1 0 hi0] at e0
  rw [first_get hri.1 (rows.length - 1) (by omega)] at eM
  simp only [Nat.zero_mul, Nat.add_zero, Int.natCast_zero, Int.add_zero] at e0
  have Hff := Lib.hid (fun i (h : i < rows.length) => first_get hri.1 i h)
  obtain ⟨nT, hnT⟩ : ∃ n, n = (tailsR rows).length := ⟨_, rfl⟩
  obtain ⟨nL, hnL⟩ : ∃ n, n = (cfgsR rows).length := ⟨_, rfl⟩
  rw [← hnL, ← hnT] at Hds Hdf HrF
  rw [← hnL, ← hnT]
  have hnLr : nL = rows.length := hnL.trans (cfgsR_len rows)
  have hnTr : nT = rows.length - 1 := hnT.trans (tailsR_len rows)
  obtain ⟨mm, hmm⟩ : ∃ m, m = rows.length - 1 := ⟨_, rfl⟩
  rw [← hmm] at Hcur eM hb2 Hrno Hsn Hout
  have hL1 : ((nL : Nat) : Int) - 1 = mm := by omega
  have hmL : mm < nL := by omega
  have hL0 : 0 < nL := by omega
  have hL0i : (0 : Int) < (nL : Int) := by omega
  have HL := Lib.hid hnLr
  have HT := Lib.hid hnTr
  have Hmm := Lib.hid hmm
  clear hreg hri hle hr hnT hnL hnLr hnTr hmm
  generalize firstR rows = f at *
  unfold regV at *
  have o3 := alloc_obj w (.cells #[.slice (some ⟨bL, oL, none⟩) nL cL, .slice AT nT cT] 82)
  have hc0 := (Chg.refl No w).alloc (.cells #[.slice (some ⟨bL, oL, none⟩) nL cL, .slice AT nT cT] 82)
  have a0 := cell_obj (i := 0) o3 rfl
  have a1 := cell_obj (i := 1) o3 rfl
  replace e0 := hc0.cell e0 (not_no _)
  replace eM := hc0.cell eM (not_no _)
  go_enter Try.func41, Try.ntmps41
  go_wp2_with (with_reducible first | refine stop_append ?_ | refine stop_copy ?_ | refine stop_make ?_ | refine stop_lookup ?_ | refine stop_update ?_ | refine stop_slice ?_ | refine stop_range ?_ | refine stop_next ?_ | refine stop_convert ⟨_, rfl⟩ ?_ | refine stop_convertB ⟨_, _, _, rfl⟩ ?_ | refine stop_eqSlice ⟨_, _, rfl⟩ ?_)
  generalize w.alloc (.cells #[.slice (some ⟨bL, oL, none⟩) nL cL, .slice AT nT cT] 82) = w0 at *
  generalize w.heap.size = b3 at *
  have cd := (Chg.refl No w0).drew
  refine pl_start (fun W => W.cell? ⟨b3, 0, none⟩ = some (.slice (some ⟨bL, oL, none⟩) nL cL) ∧ W.cell? ⟨bL, oL, none⟩ = some (.int .i64 f) ∧ Chg No w0 W) (by kernel_rfl) (by kernel_rfl) ⟨cd.cell a0 (not_no _), cd.cell e0 (not_no _), cd⟩ ?_
  ((refine pl_yes (i := 0) (oi := { dst := some 24, op := .move (.tmp 0), type := 65, pos := "law.go:67", after := #[], guard := none }) (v := ?_) rfl (by kernel_rfl) (by kernel_rfl) rfl ?_ ?_); rotate_left; focus (intro W hW; (try dsimp only at hW); go_split_ands; go_simp; (try (simp (disch := omega) only [IntWalk.i64_in]; (try go_simp))); (try (split; (next => omega); (try go_simp))); try rfl; done))
  try simp only [Act.put, List.setIfInBounds_toArray, List.set_cons_zero, List.set_cons_succ]
  ((refine pl_yes (i := 2) (oi := { dst := some 26, op := .fieldAddr 82 (.tmp 3) 0, type := 0, pos := "law.go:67", after := #[], guard := none }) (v := ?_) rfl (by kernel_rfl) (by kernel_rfl) rfl ?_ ?_); rotate_left; focus (intro W hW; (try dsimp only at hW); go_split_ands; go_simp; (try (simp (disch := omega) only [IntWalk.i64_in]; (try go_simp))); (try (split; (next => omega); (try go_simp))); try rfl; done))
  try simp only [Act.put, List.setIfInBounds_toArray, List.set_cons_zero, List.set_cons_succ]
  ((refine pl_yes (i := 3) (oi := { dst := some 27, op := .load 79 (.tmp 26), type := 79, pos := "law.go:67", after := #[{ on := 2, ground := .data }], guard := none }) (v := ?_) rfl (by kernel_rfl) (by kernel_rfl) rfl ?_ ?_); rotate_left; focus (intro W hW; (try dsimp only at hW); go_split_ands; go_simp; (try (simp (disch := omega) only [IntWalk.i64_in]; (try go_simp))); (try (split; (next => omega); (try go_simp))); try rfl; done))
  try simp only [Act.put, List.setIfInBounds_toArray, List.set_cons_zero, List.set_cons_succ]
  ((refine pl_yes (i := 4) (oi := { dst := some 28, op := .indexAddr 79 (.tmp 27) (.const (.int .i64 0)), type := 0, pos := "law.go:67", after := #[{ on := 3, ground := .data }], guard := none }) (v := ?_) rfl (by kernel_rfl) (by kernel_rfl) rfl ?_ ?_); rotate_left; focus (intro W hW; (try dsimp only at hW); go_split_ands; go_simp; (try (simp (disch := omega) only [IntWalk.i64_in]; (try go_simp))); (try (split; (next => omega); (try go_simp))); try rfl; done))
  try simp only [Act.put, List.setIfInBounds_toArray, List.set_cons_zero, List.set_cons_succ]
  ((refine pl_yes (i := 5) (oi := { dst := some 29, op := .fieldAddr 63 (.tmp 28) 0, type := 0, pos := "law.go:67", after := #[{ on := 4, ground := .data }], guard := none }) (v := ?_) rfl (by kernel_rfl) (by kernel_rfl) rfl ?_ ?_); rotate_left; focus (intro W hW; (try dsimp only at hW); go_split_ands; go_simp; (try (simp (disch := omega) only [IntWalk.i64_in]; (try go_simp))); (try (split; (next => omega); (try go_simp))); try rfl; done))
  try simp only [Act.put, List.setIfInBounds_toArray, List.set_cons_zero, List.set_cons_succ]
  ((refine pl_yes (i := 6) (oi := { dst := some 30, op := .load 3 (.tmp 29), type := 3, pos := "law.go:67", after := #[{ on := 5, ground := .data }], guard := none }) (v := ?_) rfl (by kernel_rfl) (by kernel_rfl) rfl ?_ ?_); rotate_left; focus (intro W hW; (try dsimp only at hW); go_split_ands; go_simp; (try (simp (disch := omega) only [IntWalk.i64_in]; (try go_simp))); (try (split; (next => omega); (try go_simp))); try rfl; done))
  try simp only [Act.put, List.setIfInBounds_toArray, List.set_cons_zero, List.set_cons_succ]
  refine pl_call (i := 1) (oi := { dst := some 25, op := .call { callee := .value (.func 35), args := #[.tmp 24], argTypes := #[65] }, type := 3, pos := "law.go:67", after := #[{ on := 0, ground := .data }], guard := none }) (.int .i64 f) rfl (by kernel_rfl) (by kernel_rfl) rfl (by exact (fun W hW => (Hfst.out W (hc0.trans hW.2.2)).mono fun e w' h => ⟨h.1, h.2.cell hW.1 (not_no _), h.2.cell hW.2.1 (not_no _), hW.2.2.trans h.2⟩)) (fun W => by kernel_rfl) ?_
  try simp only [Act.put, List.setIfInBounds_toArray, List.set_cons_zero, List.set_cons_succ]
  ((refine pl_yes (i := 7) (oi := { dst := some 31, op := .binOp .neq 3 (.tmp 25) (.tmp 30) 3, type := 4, pos := "law.go:67", after := #[{ on := 1, ground := .data }, { on := 6, ground := .data }], guard := none }) (v := ?_) rfl (by kernel_rfl) (by kernel_rfl) rfl ?_ ?_); rotate_left; focus (intro W hW; (try dsimp only at hW); go_split_ands; go_simp; (try (simp (disch := omega) only [IntWalk.i64_in]; (try go_simp))); (try (split; (next => omega); (try go_simp))); try rfl; done))
  try simp only [Act.put, List.setIfInBounds_toArray, List.set_cons_zero, List.set_cons_succ]
  ((refine pl_yes (i := 8) (oi := { dst := some 32, op := .move (.tmp 31), type := 4, pos := "law.go:67", after := #[{ on := 7, ground := .data }, { on := 1, ground := .chain }], guard := none }) (v := ?_) rfl (by kernel_rfl) (by kernel_rfl) rfl ?_ ?_); rotate_left; focus (intro W hW; (try dsimp only at hW); go_split_ands; go_simp; (try (simp (disch := omega) only [IntWalk.i64_in]; (try go_simp))); (try (split; (next => omega); (try go_simp))); try rfl; done))
  try simp only [Act.put, List.setIfInBounds_toArray, List.set_cons_zero, List.set_cons_succ]
  first | (refine pl_no (i := 9) (oi := { dst := some 33, op := .move (.tmp 0), type := 65, pos := "law.go:67", after := #[{ on := 8, ground := .guard }], guard := some (8, false) }) rfl (by kernel_rfl) (by kernel_rfl) rfl ?_) | ((refine pl_yes (i := 9) (oi := { dst := some 33, op := .move (.tmp 0), type := 65, pos := "law.go:67", after := #[{ on := 8, ground := .guard }], guard := some (8, false) }) (v := ?_) rfl (by kernel_rfl) (by kernel_rfl) rfl ?_ ?_); rotate_left; focus (intro W hW; (try dsimp only at hW); go_split_ands; go_simp; (try (simp (disch := omega) only [IntWalk.i64_in]; (try go_simp))); (try (split; (next => omega); (try go_simp))); try rfl; done))
  try simp only [Act.put, List.setIfInBounds_toArray, List.set_cons_zero, List.set_cons_succ]
  first | (refine pl_no (i := 11) (oi := { dst := some 35, op := .move (.tmp 5), type := 3, pos := "law.go:67", after := #[{ on := 8, ground := .guard }], guard := some (8, false) }) rfl (by kernel_rfl) (by kernel_rfl) rfl ?_) | ((refine pl_yes (i := 11) (oi := { dst := some 35, op := .move (.tmp 5), type := 3, pos := "law.go:67", after := #[{ on := 8, ground := .guard }], guard := some (8, false) }) (v := ?_) rfl (by kernel_rfl) (by kernel_rfl) rfl ?_ ?_); rotate_left; focus (intro W hW; (try dsimp only at hW); go_split_ands; go_simp; (try (simp (disch := omega) only [IntWalk.i64_in]; (try go_simp))); (try (split; (next => omega); (try go_simp))); try rfl; done))
  try simp only [Act.put, List.setIfInBounds_toArray, List.set_cons_zero, List.set_cons_succ]
  refine pl_call (i := 10) (oi := { dst := some 34, op := .call { callee := .value (.func 36), args := #[.tmp 33], argTypes := #[65] }, type := 3, pos := "law.go:67", after := #[{ on := 9, ground := .data }, { on := 8, ground := .chain }, { on := 8, ground := .guard }], guard := some (8, false) }) (.int .i64 (f + mm)) rfl (by kernel_rfl) (by kernel_rfl) rfl (by exact (fun W hW => (Hcur.out W (hc0.trans hW.2.2)).mono fun e w' h => ⟨h.1, h.2.cell hW.1 (not_no _), h.2.cell hW.2.1 (not_no _), hW.2.2.trans h.2⟩)) (fun W => by kernel_rfl) ?_
  try simp only [Act.put, List.setIfInBounds_toArray, List.set_cons_zero, List.set_cons_succ]
  first | (refine pl_no (i := 12) (oi := { dst := some 36, op := .binOp .neq 3 (.tmp 34) (.tmp 35) 3, type := 4, pos := "law.go:67", after := #[{ on := 10, ground := .data }, { on := 11, ground := .data }, { on := 8, ground := .guard }], guard := some (8, false) }) rfl (by kernel_rfl) (by kernel_rfl) rfl ?_) | ((refine pl_yes (i := 12) (oi := { dst := some 36, op := .binOp .neq 3 (.tmp 34) (.tmp 35) 3, type := 4, pos := "law.go:67", after := #[{ on := 10, ground := .data }, { on := 11, ground := .data }, { on := 8, ground := .guard }], guard := some (8, false) }) (v := ?_) rfl (by kernel_rfl) (by kernel_rfl) rfl ?_ ?_); rotate_left; focus (intro W hW; (try dsimp only at hW); go_split_ands; go_simp; (try (simp (disch := omega) only [IntWalk.i64_in]; (try go_simp))); (try (split; (next => omega); (try go_simp))); try rfl; done))
  try simp only [Act.put, List.setIfInBounds_toArray, List.set_cons_zero, List.set_cons_succ]
  ((refine pl_yes (i := 13) (oi := { dst := some 37, op := .pick (.tmp 32) (.const (.bool true)) (.tmp 36), type := 4, pos := "law.go:67", after := #[{ on := 8, ground := .data }, { on := 12, ground := .data }], guard := none }) (v := ?_) rfl (by kernel_rfl) (by kernel_rfl) rfl ?_ ?_); rotate_left; focus (intro W hW; (try dsimp only at hW); go_split_ands; go_simp; (try (simp (disch := omega) only [IntWalk.i64_in]; (try go_simp))); (try (split; (next => omega); (try go_simp))); try rfl; done))
  try simp only [Act.put, List.setIfInBounds_toArray, List.set_cons_zero, List.set_cons_succ]
  refine pl_done (by kernel_rfl)  ?_
  rintro w1 ⟨-, -, hc1⟩
  replace a0 := hc1.cell a0 (not_no _)
  replace a1 := hc1.cell a1 (not_no _)
  replace e0 := hc1.cell e0 (not_no _)
  clear eM
  have cw1 := hc0.trans hc1
  have o31 := hc1.obj o3 (not_no _)
  clear o3 hc1 hc0 cd
  go_wp2_with (with_reducible first | refine stop_append ?_ | refine stop_copy ?_ | refine stop_make ?_ | refine stop_lookup ?_ | refine stop_update ?_ | refine stop_slice ?_ | refine stop_range ?_ | refine stop_next ?_ | refine stop_convert ⟨_, rfl⟩ ?_ | refine stop_convertB ⟨_, _, _, rfl⟩ ?_ | refine stop_eqSlice ⟨_, _, rfl⟩ ?_)
  go_loopw [6, 7, 8, 9, 10, 11, 12, 13, 14] (fun v6 _ _ _ _ _ _ _ _ wr => ∃ (m : Nat) (z : Int), m ≤ rows.length + 2 ∧ z = f - 1 + m ∧ v6 = .int .i64 z ∧ Chg No w1 wr) (fun v6 _ _ _ _ _ _ _ _ _ => (f + rows.length + 1 - intOf v6).toNat)
  case atStart => exact ⟨0, _, by omega, rfl, congrArg (Value.int .i64) (by omega), Chg.refl _ _⟩
  case round =>
    obtain ⟨m, z, hm, hz, rfl, hc⟩ := hrel
    have Hz := Lib.hid hz
    have hcr := cw1.trans hc
    by_cases hlt : m < rows.length + 2
    case neg =>
      have hle : ¬ z ≤ f + mm + 1 := by have := Hmm.out; omega
      clear hz
      go_wp2_with (with_reducible first | refine stop_append ?_ | refine stop_copy ?_ | refine stop_make ?_ | refine stop_lookup ?_ | refine stop_update ?_ | refine stop_slice ?_ | refine stop_range ?_ | refine stop_next ?_ | refine stop_convert ⟨_, rfl⟩ ?_ | refine stop_convertB ⟨_, _, _, rfl⟩ ?_ | refine stop_eqSlice ⟨_, _, rfl⟩ ?_)
      go_ret
      exact ⟨rfl, hcr⟩
    have hle : z ≤ f + mm + 1 := by have := Hmm.out; omega
    by_cases hin : 1 ≤ m ∧ m ≤ rows.length
    focus
      obtain ⟨i, rfl⟩ : ∃ i, m = i + 1 := ⟨m - 1, by omega⟩
      obtain rfl : z = f + i := by omega
      have hil : i < rows.length := by omega
      have Hrow1 := Lib.hid (Hrow.out i hil)
      have Hs1 := Lib.hid (Hsy.out i hil)
      have Hds1 := Lib.hid (Hds.out (f + i))
      have Hdf1 := Lib.hid (Hdf.out (f + i))
      rw [Hat.out i hil] at Hds1 Hdf1
      simp only [atI_some] at Hds1 Hdf1
      generalize startF rows i = S0 at *
      obtain ⟨hcfg, hcr', htb⟩ := Hri.out.1.2.2 i hil
      have hsm := right_small hcr'
      have hov := Hri.out.2 i hil
      have hfi := Hff.out i hil
      rw [hov] at Hrow1
      clear hz hin hcfg hcr'
      go_wp2_with (with_reducible first | refine stop_append ?_ | refine stop_copy ?_ | refine stop_make ?_ | refine stop_lookup ?_ | refine stop_update ?_ | refine stop_slice ?_ | refine stop_range ?_ | refine stop_next ?_ | refine stop_convert ⟨_, rfl⟩ ?_ | refine stop_convertB ⟨_, _, _, rfl⟩ ?_ | refine stop_eqSlice ⟨_, _, rfl⟩ ?_)
      refine (Hrow1.out _ hcr).mono ?_
      rintro e w2 ⟨vq, vs, vt, rfl, hc2, sq, ss, st⟩
      obtain ⟨Q, hQ⟩ : ∃ o, o = rows[i].2.1 := ⟨_, rfl⟩
      obtain ⟨Z, hZ⟩ : ∃ o, o = rows[i].2.2.1 := ⟨_, rfl⟩
      obtain ⟨T, hT⟩ : ∃ o, o = rows[i].2.2.2.1 := ⟨_, rfl⟩
      rw [← hQ] at sq hsm
      rw [← hZ] at ss hsm
      rw [← hT] at st htb
      have HQ := Lib.hid hQ; have HZ := Lib.hid hZ; have HT' := Lib.hid hT
      clear hQ hZ hT
      obtain ⟨Cq, eq, rfl⟩ := sq.slice
      obtain ⟨Cs, es, rfl⟩ := ss.slice
      obtain ⟨Ct, et, rfl⟩ := st.slice
      obtain ⟨ob, hob⟩ : ∃ b, b = decide (i + 1 < rows.length) := ⟨_, rfl⟩
      rw [← hob]
      have Hob := Lib.hid hob
      clear hob hov
      have o7 := alloc_obj w2 (.cells #[.int .i64 (f + i), .slice Cq Q.length eq, .slice Cs Z.length es, .slice Ct T.length et, .bool ob] 88)
      have hcA := (Chg.refl No w2).alloc (.cells #[.int .i64 (f + i), .slice Cq Q.length eq, .slice Cs Z.length es, .slice Ct T.length et, .bool ob] 88)
      have Hsq := Lib.hid (fun W (hW : Chg No (w2.alloc (.cells #[.int .i64 (f + i), .slice Cq Q.length eq, .slice Cs Z.length es, .slice Ct T.length et, .bool ob] 88)) W) => (sq.keepNo hcA).keepNo hW)
      have Hss := Lib.hid (fun W (hW : Chg No (w2.alloc (.cells #[.int .i64 (f + i), .slice Cq Q.length eq, .slice Cs Z.length es, .slice Ct T.length et, .bool ob] 88)) W) => (ss.keepNo hcA).keepNo hW)
      have Hst := Lib.hid (fun W (hW : Chg No (w2.alloc (.cells #[.int .i64 (f + i), .slice Cq Q.length eq, .slice Cs Z.length es, .slice Ct T.length et, .bool ob] 88)) W) => (st.keepNo hcA).keepNo hW)
      clear sq ss st
      go_wp2_with (with_reducible first | refine stop_append ?_ | refine stop_copy ?_ | refine stop_make ?_ | refine stop_lookup ?_ | refine stop_update ?_ | refine stop_slice ?_ | refine stop_range ?_ | refine stop_next ?_ | refine stop_convert ⟨_, rfl⟩ ?_ | refine stop_convertB ⟨_, _, _, rfl⟩ ?_ | refine stop_eqSlice ⟨_, _, rfl⟩ ?_)
      have hcA0 := hc.trans (hc2.trans hcA)
      have hcAr := cw1.trans hcA0
      generalize w2.alloc (.cells #[.int .i64 (f + i), .slice Cq Q.length eq, .slice Cs Z.length es, .slice Ct T.length et, .bool ob] 88) = wA at *
      generalize w2.heap.size = b7 at *
      clear hcA hc2
      refine (Hs1.out _ hcAr).mono ?_
      rintro e w3 ⟨rfl, h3⟩
      have p31 := (hcA0.trans h3).obj o31 (not_no _)
      have a0 := cell_obj (i := 0) p31 rfl
      have a1 := cell_obj (i := 1) p31 rfl
      have r3 := hcAr.trans h3
      go_wp2_with (with_reducible first | refine stop_append ?_ | refine stop_copy ?_ | refine stop_make ?_ | refine stop_lookup ?_ | refine stop_update ?_ | refine stop_slice ?_ | refine stop_range ?_ | refine stop_next ?_ | refine stop_convert ⟨_, rfl⟩ ?_ | refine stop_convertB ⟨_, _, _, rfl⟩ ?_ | refine stop_eqSlice ⟨_, _, rfl⟩ ?_)
      refine (Hds1.out _ r3).mono ?_
      rintro e w4 ⟨rfl, h4⟩
      replace a0 := h4.cell a0 (not_no _)
      replace a1 := h4.cell a1 (not_no _)
      have r4 := r3.trans h4
      go_wp2_with (with_reducible first | refine stop_append ?_ | refine stop_copy ?_ | refine stop_make ?_ | refine stop_lookup ?_ | refine stop_update ?_ | refine stop_slice ?_ | refine stop_range ?_ | refine stop_next ?_ | refine stop_convert ⟨_, rfl⟩ ?_ | refine stop_convertB ⟨_, _, _, rfl⟩ ?_ | refine stop_eqSlice ⟨_, _, rfl⟩ ?_)
      refine (Hdf1.out _ r4).mono ?_
      rintro e w5 ⟨rfl, h5⟩
      have r5 := r4.trans h5
      have h35 := h3.trans (h4.trans h5)
      have p35 := (hcA0.trans h35).obj o31 (not_no _)
      replace a0 := cell_obj (i := 0) p35 rfl
      replace a1 := cell_obj (i := 1) p35 rfl
      have p75 := h35.obj o7 (not_no _)
      have y0 := cell_obj (i := 0) p75 rfl
      have y1 := cell_obj (i := 1) p75 rfl
      have y2 := cell_obj (i := 2) p75 rfl
      have y3 := cell_obj (i := 3) p75 rfl
      have y4 := cell_obj (i := 4) p75 rfl
      have hi0i : ¬ (i : Int) < 0 := by omega
      have hi0j : 0 ≤ (i : Int) := by omega
      have hiL : i < nL := by have := HL.out; omega
      obtain ⟨bL', oL', vqi, vsi, eL, -, sqi, ssi, g0, g1, g2⟩ := cfg_get (HrF.out _ r5).l i hil
      cases eL
      rw [hfi] at g0
      rw [← HQ.out] at sqi
      rw [← HZ.out] at ssi
      have Hsame := Lib.hid (fun W (hW : Chg No w5 W) => csame_any _ _ No No (f + i) (f + i) (.slice Cq Q.length eq) (.slice Cs Z.length es) vqi vsi Q Q Z Z W (Hsq.out W (h35.trans hW)) (Hss.out W (h35.trans hW)) (sqi.keepNo hW) (ssi.keepNo hW) (by have := hsm.1; omega) (by have := hsm.2.1; omega) (fun x hx => by have := hsm.2.2 x hx; omega) (by have := hsm.1; omega) (by have := hsm.2.1; omega) (fun x hx => by have := hsm.2.2 x hx; omega))
      rw [show sameC (f + i) Q Z (f + i) Q Z = true by simp [sameC]] at Hsame
      obtain ⟨Di, fi, rfl⟩ := sqi.slice
      obtain ⟨Ei, gi, rfl⟩ := ssi.slice
      unfold cfgV at Hsame
      clear sqi ssi hfi
      have cd := (Chg.refl No w5).drew
      by_cases hov : i + 1 < rows.length
      focus
        have hiT : i < nT := by have := HT.out; omega
        have hiTi : (i : Int) < nT := by omega
        have hob : ob = true := by rw [Hob.out]; exact decide_eq_true hov
        subst hob
        obtain ⟨bT, oT, vti, rfl, -, sti, g4⟩ := tail_get (HrF.out _ r5).t i (by omega)
        rw [← HT'.out] at sti
        have Hsti := Lib.hid (fun W (hW : Chg No w5 W) => sti.keepNo hW)
        obtain ⟨Fi, ki, rfl⟩ := sti.slice
        clear sti
        have Hent := Lib.hid (fun W (hW : Chg No w5 W) => entries14_any (.slice Ct T.length et) T W (Hst.out W (h35.trans hW)).no (by have := htb.1; omega))
        have Hall := Lib.hid (fun (v' : Value) (W : World) (hs : Sl No W v' T) (hW : Chg No w5 W) => dsameall_any No No v' (.slice Fi T.length ki) T T W hs (Hsti.out W hW) htb.1 htb.1 (fun e he => by have := htb.2 e he; omega) (fun e he => by have := htb.2 e he; omega))
        rw [show decide (T = T) = true by simp] at Hall
        have HS := Lib.hid (show ∀ W : World, Chg No w5 W → (fun W => (((W.cell? ⟨b7, 0, none⟩ = some (.int .i64 (f + i)) ∧ W.cell? ⟨b7, 1, none⟩ = some (.slice Cq Q.length eq) ∧ W.cell? ⟨b7, 2, none⟩ = some (.slice Cs Z.length es)) ∧ (W.cell? ⟨b7, 3, none⟩ = some (.slice Ct T.length et) ∧ W.cell? ⟨b7, 4, none⟩ = some (.bool true))) ∧ (W.cell? ⟨b3, 0, none⟩ = some (.slice (some ⟨bL, oL, none⟩) nL cL) ∧ W.cell? ⟨b3, 1, none⟩ = some (.slice (some ⟨bT, oT, none⟩) nT cT))) ∧ ((W.cell? ⟨bL, oL + i * 3, none⟩ = some (.int .i64 (f + i)) ∧ W.cell? ⟨bL, oL + i * 3 + 1, none⟩ = some (.slice Di Q.length fi) ∧ W.cell? ⟨bL, oL + i * 3 + 2, none⟩ = some (.slice Ei Z.length gi)) ∧ W.cell? ⟨bT, oT + i, none⟩ = some (.slice Fi T.length ki))) W from fun W hW => ⟨⟨⟨⟨hW.cell y0 (not_no _), hW.cell y1 (not_no _), hW.cell y2 (not_no _)⟩, ⟨hW.cell y3 (not_no _), hW.cell y4 (not_no _)⟩⟩, ⟨hW.cell a0 (not_no _), hW.cell a1 (not_no _)⟩⟩, ⟨⟨hW.cell g0 (not_no _), hW.cell g1 (not_no _), hW.cell g2 (not_no _)⟩, hW.cell g4 (not_no _)⟩⟩)
        go_wp2_with (with_reducible first | refine stop_append ?_ | refine stop_copy ?_ | refine stop_make ?_ | refine stop_lookup ?_ | refine stop_update ?_ | refine stop_slice ?_ | refine stop_range ?_ | refine stop_next ?_ | refine stop_convert ⟨_, rfl⟩ ?_ | refine stop_convertB ⟨_, _, _, rfl⟩ ?_ | refine stop_eqSlice ⟨_, _, rfl⟩ ?_)
        refine rt_start (fun W => (((W.cell? ⟨b7, 0, none⟩ = some (.int .i64 (f + i)) ∧ W.cell? ⟨b7, 1, none⟩ = some (.slice Cq Q.length eq) ∧ W.cell? ⟨b7, 2, none⟩ = some (.slice Cs Z.length es)) ∧ (W.cell? ⟨b7, 3, none⟩ = some (.slice Ct T.length et) ∧ W.cell? ⟨b7, 4, none⟩ = some (.bool true))) ∧ (W.cell? ⟨b3, 0, none⟩ = some (.slice (some ⟨bL, oL, none⟩) nL cL) ∧ W.cell? ⟨b3, 1, none⟩ = some (.slice (some ⟨bT, oT, none⟩) nT cT))) ∧ ((W.cell? ⟨bL, oL + i * 3, none⟩ = some (.int .i64 (f + i)) ∧ W.cell? ⟨bL, oL + i * 3 + 1, none⟩ = some (.slice Di Q.length fi) ∧ W.cell? ⟨bL, oL + i * 3 + 2, none⟩ = some (.slice Ei Z.length gi)) ∧ W.cell? ⟨bT, oT + i, none⟩ = some (.slice Fi T.length ki))) (by kernel_rfl) ?_
        ((refine rt_yes (i := 0) (oi := { dst := some 101, op := .fieldAddr 88 (.tmp 7) 0, type := 0, pos := "law.go:82", after := #[], guard := none }) (v := ?_) rfl (by kernel_rfl) (by kernel_rfl) (by kernel_rfl) (fun _ _ _ h => h) rfl ?_ ?_); rotate_left; focus (intro W hW; (try dsimp only at hW); go_split_ands; go_simp; (try (simp (disch := omega) only [IntWalk.i64_in]; (try go_simp))); (try (split; (next => omega); (try go_simp))); try rfl; done))
        try simp only [Act.put, List.setIfInBounds_toArray, List.set_cons_zero, List.set_cons_succ]
        ((refine rt_yes (i := 1) (oi := { dst := some 102, op := .load 68 (.tmp 101), type := 68, pos := "law.go:82", after := #[{ on := 0, ground := .data }], guard := none }) (v := ?_) rfl (by kernel_rfl) (by kernel_rfl) (by kernel_rfl) (fun _ _ _ h => h) rfl ?_ ?_); rotate_left; focus (intro W hW; (try dsimp only at hW); go_split_ands; go_simp; (try (simp (disch := omega) only [IntWalk.i64_in]; (try go_simp))); (try (split; (next => omega); (try go_simp))); try rfl; done))
        try simp only [Act.put, List.setIfInBounds_toArray, List.set_cons_zero, List.set_cons_succ]
        ((refine rt_yes (i := 2) (oi := { dst := some 103, op := .fieldAddr 82 (.tmp 3) 0, type := 0, pos := "law.go:82", after := #[], guard := none }) (v := ?_) rfl (by kernel_rfl) (by kernel_rfl) (by kernel_rfl) (fun _ _ _ h => h) rfl ?_ ?_); rotate_left; focus (intro W hW; (try dsimp only at hW); go_split_ands; go_simp; (try (simp (disch := omega) only [IntWalk.i64_in]; (try go_simp))); (try (split; (next => omega); (try go_simp))); try rfl; done))
        try simp only [Act.put, List.setIfInBounds_toArray, List.set_cons_zero, List.set_cons_succ]
        ((refine rt_yes (i := 3) (oi := { dst := some 104, op := .load 79 (.tmp 103), type := 79, pos := "law.go:82", after := #[{ on := 2, ground := .data }], guard := none }) (v := ?_) rfl (by kernel_rfl) (by kernel_rfl) (by kernel_rfl) (fun _ _ _ h => h) rfl ?_ ?_); rotate_left; focus (intro W hW; (try dsimp only at hW); go_split_ands; go_simp; (try (simp (disch := omega) only [IntWalk.i64_in]; (try go_simp))); (try (split; (next => omega); (try go_simp))); try rfl; done))
        try simp only [Act.put, List.setIfInBounds_toArray, List.set_cons_zero, List.set_cons_succ]
        ((refine rt_yes (i := 4) (oi := { dst := some 105, op := .move (.tmp 13), type := 3, pos := "law.go:82", after := #[], guard := none }) (v := ?_) rfl (by kernel_rfl) (by kernel_rfl) (by kernel_rfl) (fun _ _ _ h => h) rfl ?_ ?_); rotate_left; focus (intro W hW; (try dsimp only at hW); go_split_ands; go_simp; (try (simp (disch := omega) only [IntWalk.i64_in]; (try go_simp))); (try (split; (next => omega); (try go_simp))); try rfl; done))
        try simp only [Act.put, List.setIfInBounds_toArray, List.set_cons_zero, List.set_cons_succ]
        ((refine rt_yes (i := 5) (oi := { dst := some 106, op := .indexAddr 79 (.tmp 104) (.tmp 105), type := 0, pos := "law.go:82", after := #[{ on := 3, ground := .data }, { on := 4, ground := .data }], guard := none }) (v := ?_) rfl (by kernel_rfl) (by kernel_rfl) (by kernel_rfl) (fun _ _ _ h => h) rfl ?_ ?_); rotate_left; focus (intro W hW; (try dsimp only at hW); go_split_ands; go_simp; (try (simp (disch := omega) only [IntWalk.i64_in]; (try go_simp))); (try (split; (next => omega); (try go_simp))); try rfl; done))
        try simp only [Act.put, List.setIfInBounds_toArray, List.set_cons_zero, List.set_cons_succ]
        ((refine rt_yes (i := 6) (oi := { dst := some 107, op := .load 63 (.tmp 106), type := 63, pos := "law.go:82", after := #[{ on := 5, ground := .data }], guard := none }) (v := ?_) rfl (by kernel_rfl) (by kernel_rfl) (by kernel_rfl) (fun _ _ _ h => h) rfl ?_ ?_); rotate_left; focus (intro W hW; (try dsimp only at hW); go_split_ands; go_simp; (try (simp (disch := omega) only [IntWalk.i64_in]; (try go_simp))); (try (split; (next => omega); (try go_simp))); try rfl; done))
        try simp only [Act.put, List.setIfInBounds_toArray, List.set_cons_zero, List.set_cons_succ]
        refine rt_k (fun W => (((W.cell? ⟨b7, 0, none⟩ = some (.int .i64 (f + i)) ∧ W.cell? ⟨b7, 1, none⟩ = some (.slice Cq Q.length eq) ∧ W.cell? ⟨b7, 2, none⟩ = some (.slice Cs Z.length es)) ∧ (W.cell? ⟨b7, 3, none⟩ = some (.slice Ct T.length et) ∧ W.cell? ⟨b7, 4, none⟩ = some (.bool true))) ∧ (W.cell? ⟨b3, 0, none⟩ = some (.slice (some ⟨bL, oL, none⟩) nL cL) ∧ W.cell? ⟨b3, 1, none⟩ = some (.slice (some ⟨bT, oT, none⟩) nT cT))) ∧ ((W.cell? ⟨bL, oL + i * 3, none⟩ = some (.int .i64 (f + i)) ∧ W.cell? ⟨bL, oL + i * 3 + 1, none⟩ = some (.slice Di Q.length fi) ∧ W.cell? ⟨bL, oL + i * 3 + 2, none⟩ = some (.slice Ei Z.length gi)) ∧ W.cell? ⟨bT, oT + i, none⟩ = some (.slice Fi T.length ki))) (i := 7) (oi := { dst := some 108, op := .call { callee := .value (.func 77), args := #[.tmp 102, .tmp 107], argTypes := #[63, 63] }, type := 4, pos := "law.go:82", after := #[{ on := 1, ground := .data }, { on := 6, ground := .data }], guard := none }) (by kernel_rfl) (HS.out _ cd) (fun _ h => h) rfl (by rfl) (fun K hK => ?_)
        go_simp
        refine (Hsame.out _ cd).mono ?_
        rintro e w6 ⟨rfl, h6⟩
        have d6 := cd.trans h6
        refine hK _ _ ?_
        clear hK K
        try simp only [Act.put, List.setIfInBounds_toArray, List.set_cons_zero, List.set_cons_succ]
        ((refine rt_yes (i := 8) (oi := { dst := some 109, op := .unOp .not 4 (.tmp 108), type := 4, pos := "law.go:82", after := #[{ on := 7, ground := .data }], guard := none }) (v := ?_) rfl (by kernel_rfl) (by kernel_rfl) (by kernel_rfl) (fun _ _ _ h => h) rfl ?_ ?_); rotate_left; focus (intro W hW; (try dsimp only at hW); go_split_ands; go_simp; (try (simp (disch := omega) only [IntWalk.i64_in]; (try go_simp))); (try (split; (next => omega); (try go_simp))); try rfl; done))
        try simp only [Act.put, List.setIfInBounds_toArray, List.set_cons_zero, List.set_cons_succ]
        ((refine rt_yes (i := 9) (oi := { dst := some 110, op := .move (.tmp 109), type := 4, pos := "law.go:82", after := #[{ on := 8, ground := .data }, { on := 7, ground := .chain }], guard := none }) (v := ?_) rfl (by kernel_rfl) (by kernel_rfl) (by kernel_rfl) (fun _ _ _ h => h) rfl ?_ ?_); rotate_left; focus (intro W hW; (try dsimp only at hW); go_split_ands; go_simp; (try (simp (disch := omega) only [IntWalk.i64_in]; (try go_simp))); (try (split; (next => omega); (try go_simp))); try rfl; done))
        try simp only [Act.put, List.setIfInBounds_toArray, List.set_cons_zero, List.set_cons_succ]
        first | (refine rt_no (i := 10) (oi := { dst := some 111, op := .fieldAddr 88 (.tmp 7) 2, type := 0, pos := "law.go:82", after := #[{ on := 9, ground := .guard }], guard := some (9, false) }) rfl (by kernel_rfl) (by kernel_rfl) (by kernel_rfl) (fun _ _ _ h => h) rfl ?_) | ((refine rt_yes (i := 10) (oi := { dst := some 111, op := .fieldAddr 88 (.tmp 7) 2, type := 0, pos := "law.go:82", after := #[{ on := 9, ground := .guard }], guard := some (9, false) }) (v := ?_) rfl (by kernel_rfl) (by kernel_rfl) (by kernel_rfl) (fun _ _ _ h => h) rfl ?_ ?_); rotate_left; focus (intro W hW; (try dsimp only at hW); go_split_ands; go_simp; (try (simp (disch := omega) only [IntWalk.i64_in]; (try go_simp))); (try (split; (next => omega); (try go_simp))); try rfl; done))
        try simp only [Act.put, List.setIfInBounds_toArray, List.set_cons_zero, List.set_cons_succ]
        first | (refine rt_no (i := 11) (oi := { dst := some 112, op := .load 4 (.tmp 111), type := 4, pos := "law.go:82", after := #[{ on := 10, ground := .data }, { on := 9, ground := .guard }], guard := some (9, false) }) rfl (by kernel_rfl) (by kernel_rfl) (by kernel_rfl) (fun _ _ _ h => h) rfl ?_) | ((refine rt_yes (i := 11) (oi := { dst := some 112, op := .load 4 (.tmp 111), type := 4, pos := "law.go:82", after := #[{ on := 10, ground := .data }, { on := 9, ground := .guard }], guard := some (9, false) }) (v := ?_) rfl (by kernel_rfl) (by kernel_rfl) (by kernel_rfl) (fun _ _ _ h => h) rfl ?_ ?_); rotate_left; focus (intro W hW; (try dsimp only at hW); go_split_ands; go_simp; (try (simp (disch := omega) only [IntWalk.i64_in]; (try go_simp))); (try (split; (next => omega); (try go_simp))); try rfl; done))
        try simp only [Act.put, List.setIfInBounds_toArray, List.set_cons_zero, List.set_cons_succ]
        first | (refine rt_no (i := 12) (oi := { dst := some 113, op := .move (.tmp 14), type := 4, pos := "law.go:82", after := #[{ on := 9, ground := .guard }], guard := some (9, false) }) rfl (by kernel_rfl) (by kernel_rfl) (by kernel_rfl) (fun _ _ _ h => h) rfl ?_) | ((refine rt_yes (i := 12) (oi := { dst := some 113, op := .move (.tmp 14), type := 4, pos := "law.go:82", after := #[{ on := 9, ground := .guard }], guard := some (9, false) }) (v := ?_) rfl (by kernel_rfl) (by kernel_rfl) (by kernel_rfl) (fun _ _ _ h => h) rfl ?_ ?_); rotate_left; focus (intro W hW; (try dsimp only at hW); go_split_ands; go_simp; (try (simp (disch := omega) only [IntWalk.i64_in]; (try go_simp))); (try (split; (next => omega); (try go_simp))); try rfl; done))
        try simp only [Act.put, List.setIfInBounds_toArray, List.set_cons_zero, List.set_cons_succ]
        first | (refine rt_no (i := 13) (oi := { dst := some 114, op := .binOp .neq 4 (.tmp 112) (.tmp 113) 4, type := 4, pos := "law.go:82", after := #[{ on := 11, ground := .data }, { on := 12, ground := .data }, { on := 9, ground := .guard }], guard := some (9, false) }) rfl (by kernel_rfl) (by kernel_rfl) (by kernel_rfl) (fun _ _ _ h => h) rfl ?_) | ((refine rt_yes (i := 13) (oi := { dst := some 114, op := .binOp .neq 4 (.tmp 112) (.tmp 113) 4, type := 4, pos := "law.go:82", after := #[{ on := 11, ground := .data }, { on := 12, ground := .data }, { on := 9, ground := .guard }], guard := some (9, false) }) (v := ?_) rfl (by kernel_rfl) (by kernel_rfl) (by kernel_rfl) (fun _ _ _ h => h) rfl ?_ ?_); rotate_left; focus (intro W hW; (try dsimp only at hW); go_split_ands; go_simp; (try (simp (disch := omega) only [IntWalk.i64_in]; (try go_simp))); (try (split; (next => omega); (try go_simp))); try rfl; done))
        try simp only [Act.put, List.setIfInBounds_toArray, List.set_cons_zero, List.set_cons_succ]
        ((refine rt_yes (i := 14) (oi := { dst := some 115, op := .pick (.tmp 110) (.const (.bool true)) (.tmp 114), type := 4, pos := "law.go:82", after := #[{ on := 9, ground := .data }, { on := 13, ground := .data }], guard := none }) (v := ?_) rfl (by kernel_rfl) (by kernel_rfl) (by kernel_rfl) (fun _ _ _ h => h) rfl ?_ ?_); rotate_left; focus (intro W hW; (try dsimp only at hW); go_split_ands; go_simp; (try (simp (disch := omega) only [IntWalk.i64_in]; (try go_simp))); (try (split; (next => omega); (try go_simp))); try rfl; done))
        try simp only [Act.put, List.setIfInBounds_toArray, List.set_cons_zero, List.set_cons_succ]
        ((refine rt_yes (i := 15) (oi := { dst := some 116, op := .move (.tmp 115), type := 4, pos := "law.go:82", after := #[{ on := 14, ground := .data }, { on := 9, ground := .chain }], guard := none }) (v := ?_) rfl (by kernel_rfl) (by kernel_rfl) (by kernel_rfl) (fun _ _ _ h => h) rfl ?_ ?_); rotate_left; focus (intro W hW; (try dsimp only at hW); go_split_ands; go_simp; (try (simp (disch := omega) only [IntWalk.i64_in]; (try go_simp))); (try (split; (next => omega); (try go_simp))); try rfl; done))
        try simp only [Act.put, List.setIfInBounds_toArray, List.set_cons_zero, List.set_cons_succ]
        first | (refine rt_no (i := 16) (oi := { dst := some 117, op := .move (.tmp 14), type := 4, pos := "law.go:82", after := #[{ on := 15, ground := .guard }], guard := some (15, false) }) rfl (by kernel_rfl) (by kernel_rfl) (by kernel_rfl) (fun _ _ _ h => h) rfl ?_) | ((refine rt_yes (i := 16) (oi := { dst := some 117, op := .move (.tmp 14), type := 4, pos := "law.go:82", after := #[{ on := 15, ground := .guard }], guard := some (15, false) }) (v := ?_) rfl (by kernel_rfl) (by kernel_rfl) (by kernel_rfl) (fun _ _ _ h => h) rfl ?_ ?_); rotate_left; focus (intro W hW; (try dsimp only at hW); go_split_ands; go_simp; (try (simp (disch := omega) only [IntWalk.i64_in]; (try go_simp))); (try (split; (next => omega); (try go_simp))); try rfl; done))
        try simp only [Act.put, List.setIfInBounds_toArray, List.set_cons_zero, List.set_cons_succ]
        first | (refine rt_no (i := 17) (oi := { dst := some 118, op := .move (.tmp 117), type := 4, pos := "law.go:82", after := #[{ on := 16, ground := .data }, { on := 15, ground := .chain }, { on := 15, ground := .guard }], guard := some (15, false) }) rfl (by kernel_rfl) (by kernel_rfl) (by kernel_rfl) (fun _ _ _ h => h) rfl ?_) | ((refine rt_yes (i := 17) (oi := { dst := some 118, op := .move (.tmp 117), type := 4, pos := "law.go:82", after := #[{ on := 16, ground := .data }, { on := 15, ground := .chain }, { on := 15, ground := .guard }], guard := some (15, false) }) (v := ?_) rfl (by kernel_rfl) (by kernel_rfl) (by kernel_rfl) (fun _ _ _ h => h) rfl ?_ ?_); rotate_left; focus (intro W hW; (try dsimp only at hW); go_split_ands; go_simp; (try (simp (disch := omega) only [IntWalk.i64_in]; (try go_simp))); (try (split; (next => omega); (try go_simp))); try rfl; done))
        try simp only [Act.put, List.setIfInBounds_toArray, List.set_cons_zero, List.set_cons_succ]
        first | (refine rt_no (i := 18) (oi := { dst := some 119, op := .fieldAddr 88 (.tmp 7) 1, type := 0, pos := "law.go:82", after := #[{ on := 17, ground := .guard }], guard := some (17, true) }) rfl (by kernel_rfl) (by kernel_rfl) (by kernel_rfl) (fun _ _ _ h => h) rfl ?_) | ((refine rt_yes (i := 18) (oi := { dst := some 119, op := .fieldAddr 88 (.tmp 7) 1, type := 0, pos := "law.go:82", after := #[{ on := 17, ground := .guard }], guard := some (17, true) }) (v := ?_) rfl (by kernel_rfl) (by kernel_rfl) (by kernel_rfl) (fun _ _ _ h => h) rfl ?_ ?_); rotate_left; focus (intro W hW; (try dsimp only at hW); go_split_ands; go_simp; (try (simp (disch := omega) only [IntWalk.i64_in]; (try go_simp))); (try (split; (next => omega); (try go_simp))); try rfl; done))
        try simp only [Act.put, List.setIfInBounds_toArray, List.set_cons_zero, List.set_cons_succ]
        first | (refine rt_no (i := 19) (oi := { dst := some 120, op := .load 28 (.tmp 119), type := 28, pos := "law.go:82", after := #[{ on := 18, ground := .data }, { on := 17, ground := .guard }], guard := some (17, true) }) rfl (by kernel_rfl) (by kernel_rfl) (by kernel_rfl) (fun _ _ _ h => h) rfl ?_) | ((refine rt_yes (i := 19) (oi := { dst := some 120, op := .load 28 (.tmp 119), type := 28, pos := "law.go:82", after := #[{ on := 18, ground := .data }, { on := 17, ground := .guard }], guard := some (17, true) }) (v := ?_) rfl (by kernel_rfl) (by kernel_rfl) (by kernel_rfl) (fun _ _ _ h => h) rfl ?_ ?_); rotate_left; focus (intro W hW; (try dsimp only at hW); go_split_ands; go_simp; (try (simp (disch := omega) only [IntWalk.i64_in]; (try go_simp))); (try (split; (next => omega); (try go_simp))); try rfl; done))
        try simp only [Act.put, List.setIfInBounds_toArray, List.set_cons_zero, List.set_cons_succ]
        first | (refine rt_no (i := 21) (oi := { dst := some 122, op := .fieldAddr 82 (.tmp 3) 1, type := 0, pos := "law.go:82", after := #[{ on := 17, ground := .guard }], guard := some (17, true) }) rfl (by kernel_rfl) (by kernel_rfl) (by kernel_rfl) (fun _ _ _ h => h) rfl ?_) | ((refine rt_yes (i := 21) (oi := { dst := some 122, op := .fieldAddr 82 (.tmp 3) 1, type := 0, pos := "law.go:82", after := #[{ on := 17, ground := .guard }], guard := some (17, true) }) (v := ?_) rfl (by kernel_rfl) (by kernel_rfl) (by kernel_rfl) (fun _ _ _ h => h) rfl ?_ ?_); rotate_left; focus (intro W hW; (try dsimp only at hW); go_split_ands; go_simp; (try (simp (disch := omega) only [IntWalk.i64_in]; (try go_simp))); (try (split; (next => omega); (try go_simp))); try rfl; done))
        try simp only [Act.put, List.setIfInBounds_toArray, List.set_cons_zero, List.set_cons_succ]
        first | (refine rt_no (i := 22) (oi := { dst := some 123, op := .load 80 (.tmp 122), type := 80, pos := "law.go:82", after := #[{ on := 21, ground := .data }, { on := 17, ground := .guard }], guard := some (17, true) }) rfl (by kernel_rfl) (by kernel_rfl) (by kernel_rfl) (fun _ _ _ h => h) rfl ?_) | ((refine rt_yes (i := 22) (oi := { dst := some 123, op := .load 80 (.tmp 122), type := 80, pos := "law.go:82", after := #[{ on := 21, ground := .data }, { on := 17, ground := .guard }], guard := some (17, true) }) (v := ?_) rfl (by kernel_rfl) (by kernel_rfl) (by kernel_rfl) (fun _ _ _ h => h) rfl ?_ ?_); rotate_left; focus (intro W hW; (try dsimp only at hW); go_split_ands; go_simp; (try (simp (disch := omega) only [IntWalk.i64_in]; (try go_simp))); (try (split; (next => omega); (try go_simp))); try rfl; done))
        try simp only [Act.put, List.setIfInBounds_toArray, List.set_cons_zero, List.set_cons_succ]
        first | (refine rt_no (i := 23) (oi := { dst := some 124, op := .move (.tmp 13), type := 3, pos := "law.go:82", after := #[{ on := 17, ground := .guard }], guard := some (17, true) }) rfl (by kernel_rfl) (by kernel_rfl) (by kernel_rfl) (fun _ _ _ h => h) rfl ?_) | ((refine rt_yes (i := 23) (oi := { dst := some 124, op := .move (.tmp 13), type := 3, pos := "law.go:82", after := #[{ on := 17, ground := .guard }], guard := some (17, true) }) (v := ?_) rfl (by kernel_rfl) (by kernel_rfl) (by kernel_rfl) (fun _ _ _ h => h) rfl ?_ ?_); rotate_left; focus (intro W hW; (try dsimp only at hW); go_split_ands; go_simp; (try (simp (disch := omega) only [IntWalk.i64_in]; (try go_simp))); (try (split; (next => omega); (try go_simp))); try rfl; done))
        try simp only [Act.put, List.setIfInBounds_toArray, List.set_cons_zero, List.set_cons_succ]
        first | (refine rt_no (i := 24) (oi := { dst := some 125, op := .indexAddr 80 (.tmp 123) (.tmp 124), type := 0, pos := "law.go:82", after := #[{ on := 22, ground := .data }, { on := 23, ground := .data }, { on := 17, ground := .guard }], guard := some (17, true) }) rfl (by kernel_rfl) (by kernel_rfl) (by kernel_rfl) (fun _ _ _ h => h) rfl ?_) | ((refine rt_yes (i := 24) (oi := { dst := some 125, op := .indexAddr 80 (.tmp 123) (.tmp 124), type := 0, pos := "law.go:82", after := #[{ on := 22, ground := .data }, { on := 23, ground := .data }, { on := 17, ground := .guard }], guard := some (17, true) }) (v := ?_) rfl (by kernel_rfl) (by kernel_rfl) (by kernel_rfl) (fun _ _ _ h => h) rfl ?_ ?_); rotate_left; focus (intro W hW; (try dsimp only at hW); go_split_ands; go_simp; (try (simp (disch := omega) only [IntWalk.i64_in]; (try go_simp))); (try (split; (next => omega); (try go_simp))); try rfl; done))
        try simp only [Act.put, List.setIfInBounds_toArray, List.set_cons_zero, List.set_cons_succ]
        first | (refine rt_no (i := 25) (oi := { dst := some 126, op := .load 22 (.tmp 125), type := 22, pos := "law.go:82", after := #[{ on := 24, ground := .data }, { on := 17, ground := .guard }], guard := some (17, true) }) rfl (by kernel_rfl) (by kernel_rfl) (by kernel_rfl) (fun _ _ _ h => h) rfl ?_) | ((refine rt_yes (i := 25) (oi := { dst := some 126, op := .load 22 (.tmp 125), type := 22, pos := "law.go:82", after := #[{ on := 24, ground := .data }, { on := 17, ground := .guard }], guard := some (17, true) }) (v := ?_) rfl (by kernel_rfl) (by kernel_rfl) (by kernel_rfl) (fun _ _ _ h => h) rfl ?_ ?_); rotate_left; focus (intro W hW; (try dsimp only at hW); go_split_ands; go_simp; (try (simp (disch := omega) only [IntWalk.i64_in]; (try go_simp))); (try (split; (next => omega); (try go_simp))); try rfl; done))
        try simp only [Act.put, List.setIfInBounds_toArray, List.set_cons_zero, List.set_cons_succ]
        refine rt_k (fun W => (((W.cell? ⟨b7, 0, none⟩ = some (.int .i64 (f + i)) ∧ W.cell? ⟨b7, 1, none⟩ = some (.slice Cq Q.length eq) ∧ W.cell? ⟨b7, 2, none⟩ = some (.slice Cs Z.length es)) ∧ (W.cell? ⟨b7, 3, none⟩ = some (.slice Ct T.length et) ∧ W.cell? ⟨b7, 4, none⟩ = some (.bool true))) ∧ (W.cell? ⟨b3, 0, none⟩ = some (.slice (some ⟨bL, oL, none⟩) nL cL) ∧ W.cell? ⟨b3, 1, none⟩ = some (.slice (some ⟨bT, oT, none⟩) nT cT))) ∧ ((W.cell? ⟨bL, oL + i * 3, none⟩ = some (.int .i64 (f + i)) ∧ W.cell? ⟨bL, oL + i * 3 + 1, none⟩ = some (.slice Di Q.length fi) ∧ W.cell? ⟨bL, oL + i * 3 + 2, none⟩ = some (.slice Ei Z.length gi)) ∧ W.cell? ⟨bT, oT + i, none⟩ = some (.slice Fi T.length ki))) (i := 20) (oi := { dst := some 121, op := .call { callee := .value (.func 80), args := #[.tmp 120], argTypes := #[28] }, type := 22, pos := "law.go:82", after := #[{ on := 19, ground := .data }, { on := 17, ground := .chain }, { on := 17, ground := .guard }], guard := some (17, true) }) (by kernel_rfl) (HS.out _ d6) (fun _ h => h) rfl (by rfl) (fun K hK => ?_)
        go_simp
        refine (Hent.out _ d6).mono ?_
        rintro e w7 ⟨v7, rfl, h7, s7⟩
        obtain ⟨A7, c7, rfl⟩ := s7.slice
        have d7 := d6.trans h7
        refine hK _ _ ?_
        clear hK K
        try simp only [Act.put, List.setIfInBounds_toArray, List.set_cons_zero, List.set_cons_succ]
        refine rt_k (fun W => (((W.cell? ⟨b7, 0, none⟩ = some (.int .i64 (f + i)) ∧ W.cell? ⟨b7, 1, none⟩ = some (.slice Cq Q.length eq) ∧ W.cell? ⟨b7, 2, none⟩ = some (.slice Cs Z.length es)) ∧ (W.cell? ⟨b7, 3, none⟩ = some (.slice Ct T.length et) ∧ W.cell? ⟨b7, 4, none⟩ = some (.bool true))) ∧ (W.cell? ⟨b3, 0, none⟩ = some (.slice (some ⟨bL, oL, none⟩) nL cL) ∧ W.cell? ⟨b3, 1, none⟩ = some (.slice (some ⟨bT, oT, none⟩) nT cT))) ∧ ((W.cell? ⟨bL, oL + i * 3, none⟩ = some (.int .i64 (f + i)) ∧ W.cell? ⟨bL, oL + i * 3 + 1, none⟩ = some (.slice Di Q.length fi) ∧ W.cell? ⟨bL, oL + i * 3 + 2, none⟩ = some (.slice Ei Z.length gi)) ∧ W.cell? ⟨bT, oT + i, none⟩ = some (.slice Fi T.length ki))) (i := 26) (oi := { dst := some 127, op := .call { callee := .value (.func 78), args := #[.tmp 121, .tmp 126], argTypes := #[22, 22] }, type := 4, pos := "law.go:82", after := #[{ on := 20, ground := .data }, { on := 25, ground := .data }, { on := 20, ground := .chain }, { on := 17, ground := .guard }], guard := some (17, true) }) (by kernel_rfl) (HS.out _ d7) (fun _ h => h) rfl (by rfl) (fun K hK => ?_)
        go_simp
        refine (Hall.out _ w7 s7 d7).mono ?_
        rintro e w8 ⟨rfl, h8⟩
        have d8 := d7.trans h8
        refine hK _ _ ?_
        clear hK K
        try simp only [Act.put, List.setIfInBounds_toArray, List.set_cons_zero, List.set_cons_succ]
        first | (refine rt_no (i := 27) (oi := { dst := some 128, op := .unOp .not 4 (.tmp 127), type := 4, pos := "law.go:82", after := #[{ on := 26, ground := .data }, { on := 17, ground := .guard }], guard := some (17, true) }) rfl (by kernel_rfl) (by kernel_rfl) (by kernel_rfl) (fun _ _ _ h => h) rfl ?_) | ((refine rt_yes (i := 27) (oi := { dst := some 128, op := .unOp .not 4 (.tmp 127), type := 4, pos := "law.go:82", after := #[{ on := 26, ground := .data }, { on := 17, ground := .guard }], guard := some (17, true) }) (v := ?_) rfl (by kernel_rfl) (by kernel_rfl) (by kernel_rfl) (fun _ _ _ h => h) rfl ?_ ?_); rotate_left; focus (intro W hW; (try dsimp only at hW); go_split_ands; go_simp; (try (simp (disch := omega) only [IntWalk.i64_in]; (try go_simp))); (try (split; (next => omega); (try go_simp))); try rfl; done))
        try simp only [Act.put, List.setIfInBounds_toArray, List.set_cons_zero, List.set_cons_succ]
        first | (refine rt_no (i := 28) (oi := { dst := some 129, op := .pick (.tmp 118) (.tmp 128) (.const (.bool false)), type := 4, pos := "law.go:82", after := #[{ on := 17, ground := .data }, { on := 27, ground := .data }, { on := 15, ground := .guard }], guard := some (15, false) }) rfl (by kernel_rfl) (by kernel_rfl) (by kernel_rfl) (fun _ _ _ h => h) rfl ?_) | ((refine rt_yes (i := 28) (oi := { dst := some 129, op := .pick (.tmp 118) (.tmp 128) (.const (.bool false)), type := 4, pos := "law.go:82", after := #[{ on := 17, ground := .data }, { on := 27, ground := .data }, { on := 15, ground := .guard }], guard := some (15, false) }) (v := ?_) rfl (by kernel_rfl) (by kernel_rfl) (by kernel_rfl) (fun _ _ _ h => h) rfl ?_ ?_); rotate_left; focus (intro W hW; (try dsimp only at hW); go_split_ands; go_simp; (try (simp (disch := omega) only [IntWalk.i64_in]; (try go_simp))); (try (split; (next => omega); (try go_simp))); try rfl; done))
        try simp only [Act.put, List.setIfInBounds_toArray, List.set_cons_zero, List.set_cons_succ]
        ((refine rt_yes (i := 29) (oi := { dst := some 130, op := .pick (.tmp 116) (.const (.bool true)) (.tmp 129), type := 4, pos := "law.go:82", after := #[{ on := 15, ground := .data }, { on := 28, ground := .data }], guard := none }) (v := ?_) rfl (by kernel_rfl) (by kernel_rfl) (by kernel_rfl) (fun _ _ _ h => h) rfl ?_ ?_); rotate_left; focus (intro W hW; (try dsimp only at hW); go_split_ands; go_simp; (try (simp (disch := omega) only [IntWalk.i64_in]; (try go_simp))); (try (split; (next => omega); (try go_simp))); try rfl; done))
        try simp only [Act.put, List.setIfInBounds_toArray, List.set_cons_zero, List.set_cons_succ]
        ((refine rt_yes (i := 30) (oi := { dst := some 131, op := .move (.tmp 130), type := 4, pos := "law.go:82", after := #[{ on := 29, ground := .data }, { on := 26, ground := .chain }], guard := none }) (v := ?_) rfl (by kernel_rfl) (by kernel_rfl) (by kernel_rfl) (fun _ _ _ h => h) rfl ?_ ?_); rotate_left; focus (intro W hW; (try dsimp only at hW); go_split_ands; go_simp; (try (simp (disch := omega) only [IntWalk.i64_in]; (try go_simp))); (try (split; (next => omega); (try go_simp))); try rfl; done))
        try simp only [Act.put, List.setIfInBounds_toArray, List.set_cons_zero, List.set_cons_succ]
        first | (refine rt_no (i := 31) (oi := { dst := some 132, op := .move (.tmp 14), type := 4, pos := "law.go:82", after := #[{ on := 30, ground := .guard }], guard := some (30, false) }) rfl (by kernel_rfl) (by kernel_rfl) (by kernel_rfl) (fun _ _ _ h => h) rfl ?_) | ((refine rt_yes (i := 31) (oi := { dst := some 132, op := .move (.tmp 14), type := 4, pos := "law.go:82", after := #[{ on := 30, ground := .guard }], guard := some (30, false) }) (v := ?_) rfl (by kernel_rfl) (by kernel_rfl) (by kernel_rfl) (fun _ _ _ h => h) rfl ?_ ?_); rotate_left; focus (intro W hW; (try dsimp only at hW); go_split_ands; go_simp; (try (simp (disch := omega) only [IntWalk.i64_in]; (try go_simp))); (try (split; (next => omega); (try go_simp))); try rfl; done))
        try simp only [Act.put, List.setIfInBounds_toArray, List.set_cons_zero, List.set_cons_succ]
        first | (refine rt_no (i := 32) (oi := { dst := some 133, op := .unOp .not 4 (.tmp 132), type := 4, pos := "law.go:82", after := #[{ on := 31, ground := .data }, { on := 30, ground := .guard }], guard := some (30, false) }) rfl (by kernel_rfl) (by kernel_rfl) (by kernel_rfl) (fun _ _ _ h => h) rfl ?_) | ((refine rt_yes (i := 32) (oi := { dst := some 133, op := .unOp .not 4 (.tmp 132), type := 4, pos := "law.go:82", after := #[{ on := 31, ground := .data }, { on := 30, ground := .guard }], guard := some (30, false) }) (v := ?_) rfl (by kernel_rfl) (by kernel_rfl) (by kernel_rfl) (fun _ _ _ h => h) rfl ?_ ?_); rotate_left; focus (intro W hW; (try dsimp only at hW); go_split_ands; go_simp; (try (simp (disch := omega) only [IntWalk.i64_in]; (try go_simp))); (try (split; (next => omega); (try go_simp))); try rfl; done))
        try simp only [Act.put, List.setIfInBounds_toArray, List.set_cons_zero, List.set_cons_succ]
        first | (refine rt_no (i := 33) (oi := { dst := some 134, op := .move (.tmp 133), type := 4, pos := "law.go:82", after := #[{ on := 32, ground := .data }, { on := 30, ground := .chain }, { on := 30, ground := .guard }], guard := some (30, false) }) rfl (by kernel_rfl) (by kernel_rfl) (by kernel_rfl) (fun _ _ _ h => h) rfl ?_) | ((refine rt_yes (i := 33) (oi := { dst := some 134, op := .move (.tmp 133), type := 4, pos := "law.go:82", after := #[{ on := 32, ground := .data }, { on := 30, ground := .chain }, { on := 30, ground := .guard }], guard := some (30, false) }) (v := ?_) rfl (by kernel_rfl) (by kernel_rfl) (by kernel_rfl) (fun _ _ _ h => h) rfl ?_ ?_); rotate_left; focus (intro W hW; (try dsimp only at hW); go_split_ands; go_simp; (try (simp (disch := omega) only [IntWalk.i64_in]; (try go_simp))); (try (split; (next => omega); (try go_simp))); try rfl; done))
        try simp only [Act.put, List.setIfInBounds_toArray, List.set_cons_zero, List.set_cons_succ]
        first | (refine rt_no (i := 34) (oi := { dst := some 135, op := .fieldAddr 88 (.tmp 7) 1, type := 0, pos := "law.go:82", after := #[{ on := 33, ground := .guard }], guard := some (33, true) }) rfl (by kernel_rfl) (by kernel_rfl) (by kernel_rfl) (fun _ _ _ h => h) rfl ?_) | ((refine rt_yes (i := 34) (oi := { dst := some 135, op := .fieldAddr 88 (.tmp 7) 1, type := 0, pos := "law.go:82", after := #[{ on := 33, ground := .guard }], guard := some (33, true) }) (v := ?_) rfl (by kernel_rfl) (by kernel_rfl) (by kernel_rfl) (fun _ _ _ h => h) rfl ?_ ?_); rotate_left; focus (intro W hW; (try dsimp only at hW); go_split_ands; go_simp; (try (simp (disch := omega) only [IntWalk.i64_in]; (try go_simp))); (try (split; (next => omega); (try go_simp))); try rfl; done))
        try simp only [Act.put, List.setIfInBounds_toArray, List.set_cons_zero, List.set_cons_succ]
        first | (refine rt_no (i := 35) (oi := { dst := some 136, op := .load 28 (.tmp 135), type := 28, pos := "law.go:82", after := #[{ on := 34, ground := .data }, { on := 33, ground := .guard }], guard := some (33, true) }) rfl (by kernel_rfl) (by kernel_rfl) (by kernel_rfl) (fun _ _ _ h => h) rfl ?_) | ((refine rt_yes (i := 35) (oi := { dst := some 136, op := .load 28 (.tmp 135), type := 28, pos := "law.go:82", after := #[{ on := 34, ground := .data }, { on := 33, ground := .guard }], guard := some (33, true) }) (v := ?_) rfl (by kernel_rfl) (by kernel_rfl) (by kernel_rfl) (fun _ _ _ h => h) rfl ?_ ?_); rotate_left; focus (intro W hW; (try dsimp only at hW); go_split_ands; go_simp; (try (simp (disch := omega) only [IntWalk.i64_in]; (try go_simp))); (try (split; (next => omega); (try go_simp))); try rfl; done))
        try simp only [Act.put, List.setIfInBounds_toArray, List.set_cons_zero, List.set_cons_succ]
        first | (refine rt_no (i := 36) (oi := { dst := some 137, op := .call { callee := .builtin .len, args := #[.tmp 136], argTypes := #[28] }, type := 3, pos := "law.go:82", after := #[{ on := 35, ground := .data }, { on := 33, ground := .guard }], guard := some (33, true) }) rfl (by kernel_rfl) (by kernel_rfl) (by kernel_rfl) (fun _ _ _ h => h) rfl ?_) | ((refine rt_yes (i := 36) (oi := { dst := some 137, op := .call { callee := .builtin .len, args := #[.tmp 136], argTypes := #[28] }, type := 3, pos := "law.go:82", after := #[{ on := 35, ground := .data }, { on := 33, ground := .guard }], guard := some (33, true) }) (v := ?_) rfl (by kernel_rfl) (by kernel_rfl) (by kernel_rfl) (fun _ _ _ h => h) rfl ?_ ?_); rotate_left; focus (intro W hW; (try dsimp only at hW); go_split_ands; go_simp; (try (simp (disch := omega) only [IntWalk.i64_in]; (try go_simp))); (try (split; (next => omega); (try go_simp))); try rfl; done))
        try simp only [Act.put, List.setIfInBounds_toArray, List.set_cons_zero, List.set_cons_succ]
        first | (refine rt_no (i := 37) (oi := { dst := some 138, op := .binOp .gtr 3 (.tmp 137) (.const (.int .i64 0)) 3, type := 4, pos := "law.go:82", after := #[{ on := 36, ground := .data }, { on := 33, ground := .guard }], guard := some (33, true) }) rfl (by kernel_rfl) (by kernel_rfl) (by kernel_rfl) (fun _ _ _ h => h) rfl ?_) | ((refine rt_yes (i := 37) (oi := { dst := some 138, op := .binOp .gtr 3 (.tmp 137) (.const (.int .i64 0)) 3, type := 4, pos := "law.go:82", after := #[{ on := 36, ground := .data }, { on := 33, ground := .guard }], guard := some (33, true) }) (v := ?_) rfl (by kernel_rfl) (by kernel_rfl) (by kernel_rfl) (fun _ _ _ h => h) rfl ?_ ?_); rotate_left; focus (intro W hW; (try dsimp only at hW); go_split_ands; go_simp; (try (simp (disch := omega) only [IntWalk.i64_in]; (try go_simp))); (try (split; (next => omega); (try go_simp))); try rfl; done))
        try simp only [Act.put, List.setIfInBounds_toArray, List.set_cons_zero, List.set_cons_succ]
        first | (refine rt_no (i := 38) (oi := { dst := some 139, op := .pick (.tmp 134) (.tmp 138) (.const (.bool false)), type := 4, pos := "law.go:82", after := #[{ on := 33, ground := .data }, { on := 37, ground := .data }, { on := 30, ground := .guard }], guard := some (30, false) }) rfl (by kernel_rfl) (by kernel_rfl) (by kernel_rfl) (fun _ _ _ h => h) rfl ?_) | ((refine rt_yes (i := 38) (oi := { dst := some 139, op := .pick (.tmp 134) (.tmp 138) (.const (.bool false)), type := 4, pos := "law.go:82", after := #[{ on := 33, ground := .data }, { on := 37, ground := .data }, { on := 30, ground := .guard }], guard := some (30, false) }) (v := ?_) rfl (by kernel_rfl) (by kernel_rfl) (by kernel_rfl) (fun _ _ _ h => h) rfl ?_ ?_); rotate_left; focus (intro W hW; (try dsimp only at hW); go_split_ands; go_simp; (try (simp (disch := omega) only [IntWalk.i64_in]; (try go_simp))); (try (split; (next => omega); (try go_simp))); try rfl; done))
        try simp only [Act.put, List.setIfInBounds_toArray, List.set_cons_zero, List.set_cons_succ]
        refine rt_k (fun W => (((W.cell? ⟨b7, 0, none⟩ = some (.int .i64 (f + i)) ∧ W.cell? ⟨b7, 1, none⟩ = some (.slice Cq Q.length eq) ∧ W.cell? ⟨b7, 2, none⟩ = some (.slice Cs Z.length es)) ∧ (W.cell? ⟨b7, 3, none⟩ = some (.slice Ct T.length et) ∧ W.cell? ⟨b7, 4, none⟩ = some (.bool true))) ∧ (W.cell? ⟨b3, 0, none⟩ = some (.slice (some ⟨bL, oL, none⟩) nL cL) ∧ W.cell? ⟨b3, 1, none⟩ = some (.slice (some ⟨bT, oT, none⟩) nT cT))) ∧ ((W.cell? ⟨bL, oL + i * 3, none⟩ = some (.int .i64 (f + i)) ∧ W.cell? ⟨bL, oL + i * 3 + 1, none⟩ = some (.slice Di Q.length fi) ∧ W.cell? ⟨bL, oL + i * 3 + 2, none⟩ = some (.slice Ei Z.length gi)) ∧ W.cell? ⟨bT, oT + i, none⟩ = some (.slice Fi T.length ki))) (i := 39) (oi := { dst := some 140, op := .pick (.tmp 131) (.const (.bool true)) (.tmp 139), type := 4, pos := "law.go:82", after := #[{ on := 30, ground := .data }, { on := 38, ground := .data }], guard := none }) (by kernel_rfl) (HS.out _ d8) (fun _ h => h) rfl (by rfl) (fun K hK => ?_)
        go_simp
        refine hK _ _ ?_
        clear hK K
        try simp only [Act.put, List.setIfInBounds_toArray, List.set_cons_zero, List.set_cons_succ]
        refine rt_done (by kernel_rfl)  ?_
        have c6 := hcA0.trans (h35.trans d8)
        clear y0 y1 y2 y3 y4 a0 a1 g0 g1 g2 g4 s7
        go_wp2_with (with_reducible first | refine stop_append ?_ | refine stop_copy ?_ | refine stop_make ?_ | refine stop_lookup ?_ | refine stop_update ?_ | refine stop_slice ?_ | refine stop_range ?_ | refine stop_next ?_ | refine stop_convert ⟨_, rfl⟩ ?_ | refine stop_convertB ⟨_, _, _, rfl⟩ ?_ | refine stop_eqSlice ⟨_, _, rfl⟩ ?_)
        go_roundw
        case rel => exact ⟨i + 2, _, by omega, rfl, congrArg (Value.int .i64) (by omega), c6⟩
        case measure => simp [intOf]; omega
      focus
        have hiT : ¬ i < nT := by have := HT.out; omega
        have hiTi : ¬ (i : Int) < nT := by omega
        have hob : ob = false := by rw [Hob.out]; exact decide_eq_false hov
        have hT0 : T = [] := by rw [HT'.out]; exact Hle.out i hil (by omega)
        subst hob
        subst hT0
        simp only [List.length_nil] at *
        have HS := Lib.hid (show ∀ W : World, Chg No w5 W → (fun W => ((W.cell? ⟨b7, 0, none⟩ = some (.int .i64 (f + i)) ∧ W.cell? ⟨b7, 1, none⟩ = some (.slice Cq Q.length eq) ∧ W.cell? ⟨b7, 2, none⟩ = some (.slice Cs Z.length es)) ∧ (W.cell? ⟨b7, 3, none⟩ = some (.slice Ct 0 et) ∧ W.cell? ⟨b7, 4, none⟩ = some (.bool false))) ∧ (W.cell? ⟨b3, 0, none⟩ = some (.slice (some ⟨bL, oL, none⟩) nL cL) ∧ W.cell? ⟨b3, 1, none⟩ = some (.slice AT nT cT)) ∧ (W.cell? ⟨bL, oL + i * 3, none⟩ = some (.int .i64 (f + i)) ∧ W.cell? ⟨bL, oL + i * 3 + 1, none⟩ = some (.slice Di Q.length fi) ∧ W.cell? ⟨bL, oL + i * 3 + 2, none⟩ = some (.slice Ei Z.length gi)) ∧ Chg No w5 W) W from fun W hW => ⟨⟨⟨hW.cell y0 (not_no _), hW.cell y1 (not_no _), hW.cell y2 (not_no _)⟩, ⟨hW.cell y3 (not_no _), hW.cell y4 (not_no _)⟩⟩, ⟨hW.cell a0 (not_no _), hW.cell a1 (not_no _)⟩, ⟨hW.cell g0 (not_no _), hW.cell g1 (not_no _), hW.cell g2 (not_no _)⟩, hW⟩)
        go_wp2_with (with_reducible first | refine stop_append ?_ | refine stop_copy ?_ | refine stop_make ?_ | refine stop_lookup ?_ | refine stop_update ?_ | refine stop_slice ?_ | refine stop_range ?_ | refine stop_next ?_ | refine stop_convert ⟨_, rfl⟩ ?_ | refine stop_convertB ⟨_, _, _, rfl⟩ ?_ | refine stop_eqSlice ⟨_, _, rfl⟩ ?_)
        refine pl_start (fun W => ((W.cell? ⟨b7, 0, none⟩ = some (.int .i64 (f + i)) ∧ W.cell? ⟨b7, 1, none⟩ = some (.slice Cq Q.length eq) ∧ W.cell? ⟨b7, 2, none⟩ = some (.slice Cs Z.length es)) ∧ (W.cell? ⟨b7, 3, none⟩ = some (.slice Ct 0 et) ∧ W.cell? ⟨b7, 4, none⟩ = some (.bool false))) ∧ (W.cell? ⟨b3, 0, none⟩ = some (.slice (some ⟨bL, oL, none⟩) nL cL) ∧ W.cell? ⟨b3, 1, none⟩ = some (.slice AT nT cT)) ∧ (W.cell? ⟨bL, oL + i * 3, none⟩ = some (.int .i64 (f + i)) ∧ W.cell? ⟨bL, oL + i * 3 + 1, none⟩ = some (.slice Di Q.length fi) ∧ W.cell? ⟨bL, oL + i * 3 + 2, none⟩ = some (.slice Ei Z.length gi)) ∧ Chg No w5 W) (by kernel_rfl) (by kernel_rfl) (HS.out _ cd) ?_
        ((refine pl_yes (i := 0) (oi := { dst := some 101, op := .fieldAddr 88 (.tmp 7) 0, type := 0, pos := "law.go:82", after := #[], guard := none }) (v := ?_) rfl (by kernel_rfl) (by kernel_rfl) rfl ?_ ?_); rotate_left; focus (intro W hW; (try dsimp only at hW); go_split_ands; go_simp; (try (simp (disch := omega) only [IntWalk.i64_in]; (try go_simp))); (try (split; (next => omega); (try go_simp))); try rfl; done))
        try simp only [Act.put, List.setIfInBounds_toArray, List.set_cons_zero, List.set_cons_succ]
        ((refine pl_yes (i := 1) (oi := { dst := some 102, op := .load 68 (.tmp 101), type := 68, pos := "law.go:82", after := #[{ on := 0, ground := .data }], guard := none }) (v := ?_) rfl (by kernel_rfl) (by kernel_rfl) rfl ?_ ?_); rotate_left; focus (intro W hW; (try dsimp only at hW); go_split_ands; go_simp; (try (simp (disch := omega) only [IntWalk.i64_in]; (try go_simp))); (try (split; (next => omega); (try go_simp))); try rfl; done))
        try simp only [Act.put, List.setIfInBounds_toArray, List.set_cons_zero, List.set_cons_succ]
        ((refine pl_yes (i := 2) (oi := { dst := some 103, op := .fieldAddr 82 (.tmp 3) 0, type := 0, pos := "law.go:82", after := #[], guard := none }) (v := ?_) rfl (by kernel_rfl) (by kernel_rfl) rfl ?_ ?_); rotate_left; focus (intro W hW; (try dsimp only at hW); go_split_ands; go_simp; (try (simp (disch := omega) only [IntWalk.i64_in]; (try go_simp))); (try (split; (next => omega); (try go_simp))); try rfl; done))
        try simp only [Act.put, List.setIfInBounds_toArray, List.set_cons_zero, List.set_cons_succ]
        ((refine pl_yes (i := 3) (oi := { dst := some 104, op := .load 79 (.tmp 103), type := 79, pos := "law.go:82", after := #[{ on := 2, ground := .data }], guard := none }) (v := ?_) rfl (by kernel_rfl) (by kernel_rfl) rfl ?_ ?_); rotate_left; focus (intro W hW; (try dsimp only at hW); go_split_ands; go_simp; (try (simp (disch := omega) only [IntWalk.i64_in]; (try go_simp))); (try (split; (next => omega); (try go_simp))); try rfl; done))
        try simp only [Act.put, List.setIfInBounds_toArray, List.set_cons_zero, List.set_cons_succ]
        ((refine pl_yes (i := 4) (oi := { dst := some 105, op := .move (.tmp 13), type := 3, pos := "law.go:82", after := #[], guard := none }) (v := ?_) rfl (by kernel_rfl) (by kernel_rfl) rfl ?_ ?_); rotate_left; focus (intro W hW; (try dsimp only at hW); go_split_ands; go_simp; (try (simp (disch := omega) only [IntWalk.i64_in]; (try go_simp))); (try (split; (next => omega); (try go_simp))); try rfl; done))
        try simp only [Act.put, List.setIfInBounds_toArray, List.set_cons_zero, List.set_cons_succ]
        ((refine pl_yes (i := 5) (oi := { dst := some 106, op := .indexAddr 79 (.tmp 104) (.tmp 105), type := 0, pos := "law.go:82", after := #[{ on := 3, ground := .data }, { on := 4, ground := .data }], guard := none }) (v := ?_) rfl (by kernel_rfl) (by kernel_rfl) rfl ?_ ?_); rotate_left; focus (intro W hW; (try dsimp only at hW); go_split_ands; go_simp; (try (simp (disch := omega) only [IntWalk.i64_in]; (try go_simp))); (try (split; (next => omega); (try go_simp))); try rfl; done))
        try simp only [Act.put, List.setIfInBounds_toArray, List.set_cons_zero, List.set_cons_succ]
        ((refine pl_yes (i := 6) (oi := { dst := some 107, op := .load 63 (.tmp 106), type := 63, pos := "law.go:82", after := #[{ on := 5, ground := .data }], guard := none }) (v := ?_) rfl (by kernel_rfl) (by kernel_rfl) rfl ?_ ?_); rotate_left; focus (intro W hW; (try dsimp only at hW); go_split_ands; go_simp; (try (simp (disch := omega) only [IntWalk.i64_in]; (try go_simp))); (try (split; (next => omega); (try go_simp))); try rfl; done))
        try simp only [Act.put, List.setIfInBounds_toArray, List.set_cons_zero, List.set_cons_succ]
        refine pl_call (i := 7) (oi := { dst := some 108, op := .call { callee := .value (.func 77), args := #[.tmp 102, .tmp 107], argTypes := #[63, 63] }, type := 4, pos := "law.go:82", after := #[{ on := 1, ground := .data }, { on := 6, ground := .data }], guard := none }) (.bool true) rfl (by kernel_rfl) (by kernel_rfl) rfl (by exact (fun W hW => (Hsame.out W hW.2.2.2).mono fun e w' h => ⟨h.1, HS.out _ (hW.2.2.2.trans h.2)⟩)) (fun W => by kernel_rfl) ?_
        try simp only [Act.put, List.setIfInBounds_toArray, List.set_cons_zero, List.set_cons_succ]
        ((refine pl_yes (i := 8) (oi := { dst := some 109, op := .unOp .not 4 (.tmp 108), type := 4, pos := "law.go:82", after := #[{ on := 7, ground := .data }], guard := none }) (v := ?_) rfl (by kernel_rfl) (by kernel_rfl) rfl ?_ ?_); rotate_left; focus (intro W hW; (try dsimp only at hW); go_split_ands; go_simp; (try (simp (disch := omega) only [IntWalk.i64_in]; (try go_simp))); (try (split; (next => omega); (try go_simp))); try rfl; done))
        try simp only [Act.put, List.setIfInBounds_toArray, List.set_cons_zero, List.set_cons_succ]
        ((refine pl_yes (i := 9) (oi := { dst := some 110, op := .move (.tmp 109), type := 4, pos := "law.go:82", after := #[{ on := 8, ground := .data }, { on := 7, ground := .chain }], guard := none }) (v := ?_) rfl (by kernel_rfl) (by kernel_rfl) rfl ?_ ?_); rotate_left; focus (intro W hW; (try dsimp only at hW); go_split_ands; go_simp; (try (simp (disch := omega) only [IntWalk.i64_in]; (try go_simp))); (try (split; (next => omega); (try go_simp))); try rfl; done))
        try simp only [Act.put, List.setIfInBounds_toArray, List.set_cons_zero, List.set_cons_succ]
        first | (refine pl_no (i := 10) (oi := { dst := some 111, op := .fieldAddr 88 (.tmp 7) 2, type := 0, pos := "law.go:82", after := #[{ on := 9, ground := .guard }], guard := some (9, false) }) rfl (by kernel_rfl) (by kernel_rfl) rfl ?_) | ((refine pl_yes (i := 10) (oi := { dst := some 111, op := .fieldAddr 88 (.tmp 7) 2, type := 0, pos := "law.go:82", after := #[{ on := 9, ground := .guard }], guard := some (9, false) }) (v := ?_) rfl (by kernel_rfl) (by kernel_rfl) rfl ?_ ?_); rotate_left; focus (intro W hW; (try dsimp only at hW); go_split_ands; go_simp; (try (simp (disch := omega) only [IntWalk.i64_in]; (try go_simp))); (try (split; (next => omega); (try go_simp))); try rfl; done))
        try simp only [Act.put, List.setIfInBounds_toArray, List.set_cons_zero, List.set_cons_succ]
        first | (refine pl_no (i := 11) (oi := { dst := some 112, op := .load 4 (.tmp 111), type := 4, pos := "law.go:82", after := #[{ on := 10, ground := .data }, { on := 9, ground := .guard }], guard := some (9, false) }) rfl (by kernel_rfl) (by kernel_rfl) rfl ?_) | ((refine pl_yes (i := 11) (oi := { dst := some 112, op := .load 4 (.tmp 111), type := 4, pos := "law.go:82", after := #[{ on := 10, ground := .data }, { on := 9, ground := .guard }], guard := some (9, false) }) (v := ?_) rfl (by kernel_rfl) (by kernel_rfl) rfl ?_ ?_); rotate_left; focus (intro W hW; (try dsimp only at hW); go_split_ands; go_simp; (try (simp (disch := omega) only [IntWalk.i64_in]; (try go_simp))); (try (split; (next => omega); (try go_simp))); try rfl; done))
        try simp only [Act.put, List.setIfInBounds_toArray, List.set_cons_zero, List.set_cons_succ]
        first | (refine pl_no (i := 12) (oi := { dst := some 113, op := .move (.tmp 14), type := 4, pos := "law.go:82", after := #[{ on := 9, ground := .guard }], guard := some (9, false) }) rfl (by kernel_rfl) (by kernel_rfl) rfl ?_) | ((refine pl_yes (i := 12) (oi := { dst := some 113, op := .move (.tmp 14), type := 4, pos := "law.go:82", after := #[{ on := 9, ground := .guard }], guard := some (9, false) }) (v := ?_) rfl (by kernel_rfl) (by kernel_rfl) rfl ?_ ?_); rotate_left; focus (intro W hW; (try dsimp only at hW); go_split_ands; go_simp; (try (simp (disch := omega) only [IntWalk.i64_in]; (try go_simp))); (try (split; (next => omega); (try go_simp))); try rfl; done))
        try simp only [Act.put, List.setIfInBounds_toArray, List.set_cons_zero, List.set_cons_succ]
        first | (refine pl_no (i := 13) (oi := { dst := some 114, op := .binOp .neq 4 (.tmp 112) (.tmp 113) 4, type := 4, pos := "law.go:82", after := #[{ on := 11, ground := .data }, { on := 12, ground := .data }, { on := 9, ground := .guard }], guard := some (9, false) }) rfl (by kernel_rfl) (by kernel_rfl) rfl ?_) | ((refine pl_yes (i := 13) (oi := { dst := some 114, op := .binOp .neq 4 (.tmp 112) (.tmp 113) 4, type := 4, pos := "law.go:82", after := #[{ on := 11, ground := .data }, { on := 12, ground := .data }, { on := 9, ground := .guard }], guard := some (9, false) }) (v := ?_) rfl (by kernel_rfl) (by kernel_rfl) rfl ?_ ?_); rotate_left; focus (intro W hW; (try dsimp only at hW); go_split_ands; go_simp; (try (simp (disch := omega) only [IntWalk.i64_in]; (try go_simp))); (try (split; (next => omega); (try go_simp))); try rfl; done))
        try simp only [Act.put, List.setIfInBounds_toArray, List.set_cons_zero, List.set_cons_succ]
        ((refine pl_yes (i := 14) (oi := { dst := some 115, op := .pick (.tmp 110) (.const (.bool true)) (.tmp 114), type := 4, pos := "law.go:82", after := #[{ on := 9, ground := .data }, { on := 13, ground := .data }], guard := none }) (v := ?_) rfl (by kernel_rfl) (by kernel_rfl) rfl ?_ ?_); rotate_left; focus (intro W hW; (try dsimp only at hW); go_split_ands; go_simp; (try (simp (disch := omega) only [IntWalk.i64_in]; (try go_simp))); (try (split; (next => omega); (try go_simp))); try rfl; done))
        try simp only [Act.put, List.setIfInBounds_toArray, List.set_cons_zero, List.set_cons_succ]
        ((refine pl_yes (i := 15) (oi := { dst := some 116, op := .move (.tmp 115), type := 4, pos := "law.go:82", after := #[{ on := 14, ground := .data }, { on := 9, ground := .chain }], guard := none }) (v := ?_) rfl (by kernel_rfl) (by kernel_rfl) rfl ?_ ?_); rotate_left; focus (intro W hW; (try dsimp only at hW); go_split_ands; go_simp; (try (simp (disch := omega) only [IntWalk.i64_in]; (try go_simp))); (try (split; (next => omega); (try go_simp))); try rfl; done))
        try simp only [Act.put, List.setIfInBounds_toArray, List.set_cons_zero, List.set_cons_succ]
        first | (refine pl_no (i := 16) (oi := { dst := some 117, op := .move (.tmp 14), type := 4, pos := "law.go:82", after := #[{ on := 15, ground := .guard }], guard := some (15, false) }) rfl (by kernel_rfl) (by kernel_rfl) rfl ?_) | ((refine pl_yes (i := 16) (oi := { dst := some 117, op := .move (.tmp 14), type := 4, pos := "law.go:82", after := #[{ on := 15, ground := .guard }], guard := some (15, false) }) (v := ?_) rfl (by kernel_rfl) (by kernel_rfl) rfl ?_ ?_); rotate_left; focus (intro W hW; (try dsimp only at hW); go_split_ands; go_simp; (try (simp (disch := omega) only [IntWalk.i64_in]; (try go_simp))); (try (split; (next => omega); (try go_simp))); try rfl; done))
        try simp only [Act.put, List.setIfInBounds_toArray, List.set_cons_zero, List.set_cons_succ]
        first | (refine pl_no (i := 17) (oi := { dst := some 118, op := .move (.tmp 117), type := 4, pos := "law.go:82", after := #[{ on := 16, ground := .data }, { on := 15, ground := .chain }, { on := 15, ground := .guard }], guard := some (15, false) }) rfl (by kernel_rfl) (by kernel_rfl) rfl ?_) | ((refine pl_yes (i := 17) (oi := { dst := some 118, op := .move (.tmp 117), type := 4, pos := "law.go:82", after := #[{ on := 16, ground := .data }, { on := 15, ground := .chain }, { on := 15, ground := .guard }], guard := some (15, false) }) (v := ?_) rfl (by kernel_rfl) (by kernel_rfl) rfl ?_ ?_); rotate_left; focus (intro W hW; (try dsimp only at hW); go_split_ands; go_simp; (try (simp (disch := omega) only [IntWalk.i64_in]; (try go_simp))); (try (split; (next => omega); (try go_simp))); try rfl; done))
        try simp only [Act.put, List.setIfInBounds_toArray, List.set_cons_zero, List.set_cons_succ]
        first | (refine pl_no (i := 18) (oi := { dst := some 119, op := .fieldAddr 88 (.tmp 7) 1, type := 0, pos := "law.go:82", after := #[{ on := 17, ground := .guard }], guard := some (17, true) }) rfl (by kernel_rfl) (by kernel_rfl) rfl ?_) | ((refine pl_yes (i := 18) (oi := { dst := some 119, op := .fieldAddr 88 (.tmp 7) 1, type := 0, pos := "law.go:82", after := #[{ on := 17, ground := .guard }], guard := some (17, true) }) (v := ?_) rfl (by kernel_rfl) (by kernel_rfl) rfl ?_ ?_); rotate_left; focus (intro W hW; (try dsimp only at hW); go_split_ands; go_simp; (try (simp (disch := omega) only [IntWalk.i64_in]; (try go_simp))); (try (split; (next => omega); (try go_simp))); try rfl; done))
        try simp only [Act.put, List.setIfInBounds_toArray, List.set_cons_zero, List.set_cons_succ]
        first | (refine pl_no (i := 19) (oi := { dst := some 120, op := .load 28 (.tmp 119), type := 28, pos := "law.go:82", after := #[{ on := 18, ground := .data }, { on := 17, ground := .guard }], guard := some (17, true) }) rfl (by kernel_rfl) (by kernel_rfl) rfl ?_) | ((refine pl_yes (i := 19) (oi := { dst := some 120, op := .load 28 (.tmp 119), type := 28, pos := "law.go:82", after := #[{ on := 18, ground := .data }, { on := 17, ground := .guard }], guard := some (17, true) }) (v := ?_) rfl (by kernel_rfl) (by kernel_rfl) rfl ?_ ?_); rotate_left; focus (intro W hW; (try dsimp only at hW); go_split_ands; go_simp; (try (simp (disch := omega) only [IntWalk.i64_in]; (try go_simp))); (try (split; (next => omega); (try go_simp))); try rfl; done))
        try simp only [Act.put, List.setIfInBounds_toArray, List.set_cons_zero, List.set_cons_succ]
        first | (refine pl_no (i := 21) (oi := { dst := some 122, op := .fieldAddr 82 (.tmp 3) 1, type := 0, pos := "law.go:82", after := #[{ on := 17, ground := .guard }], guard := some (17, true) }) rfl (by kernel_rfl) (by kernel_rfl) rfl ?_) | ((refine pl_yes (i := 21) (oi := { dst := some 122, op := .fieldAddr 82 (.tmp 3) 1, type := 0, pos := "law.go:82", after := #[{ on := 17, ground := .guard }], guard := some (17, true) }) (v := ?_) rfl (by kernel_rfl) (by kernel_rfl) rfl ?_ ?_); rotate_left; focus (intro W hW; (try dsimp only at hW); go_split_ands; go_simp; (try (simp (disch := omega) only [IntWalk.i64_in]; (try go_simp))); (try (split; (next => omega); (try go_simp))); try rfl; done))
        try simp only [Act.put, List.setIfInBounds_toArray, List.set_cons_zero, List.set_cons_succ]
        first | (refine pl_no (i := 22) (oi := { dst := some 123, op := .load 80 (.tmp 122), type := 80, pos := "law.go:82", after := #[{ on := 21, ground := .data }, { on := 17, ground := .guard }], guard := some (17, true) }) rfl (by kernel_rfl) (by kernel_rfl) rfl ?_) | ((refine pl_yes (i := 22) (oi := { dst := some 123, op := .load 80 (.tmp 122), type := 80, pos := "law.go:82", after := #[{ on := 21, ground := .data }, { on := 17, ground := .guard }], guard := some (17, true) }) (v := ?_) rfl (by kernel_rfl) (by kernel_rfl) rfl ?_ ?_); rotate_left; focus (intro W hW; (try dsimp only at hW); go_split_ands; go_simp; (try (simp (disch := omega) only [IntWalk.i64_in]; (try go_simp))); (try (split; (next => omega); (try go_simp))); try rfl; done))
        try simp only [Act.put, List.setIfInBounds_toArray, List.set_cons_zero, List.set_cons_succ]
        first | (refine pl_no (i := 23) (oi := { dst := some 124, op := .move (.tmp 13), type := 3, pos := "law.go:82", after := #[{ on := 17, ground := .guard }], guard := some (17, true) }) rfl (by kernel_rfl) (by kernel_rfl) rfl ?_) | ((refine pl_yes (i := 23) (oi := { dst := some 124, op := .move (.tmp 13), type := 3, pos := "law.go:82", after := #[{ on := 17, ground := .guard }], guard := some (17, true) }) (v := ?_) rfl (by kernel_rfl) (by kernel_rfl) rfl ?_ ?_); rotate_left; focus (intro W hW; (try dsimp only at hW); go_split_ands; go_simp; (try (simp (disch := omega) only [IntWalk.i64_in]; (try go_simp))); (try (split; (next => omega); (try go_simp))); try rfl; done))
        try simp only [Act.put, List.setIfInBounds_toArray, List.set_cons_zero, List.set_cons_succ]
        first | (refine pl_no (i := 24) (oi := { dst := some 125, op := .indexAddr 80 (.tmp 123) (.tmp 124), type := 0, pos := "law.go:82", after := #[{ on := 22, ground := .data }, { on := 23, ground := .data }, { on := 17, ground := .guard }], guard := some (17, true) }) rfl (by kernel_rfl) (by kernel_rfl) rfl ?_) | ((refine pl_yes (i := 24) (oi := { dst := some 125, op := .indexAddr 80 (.tmp 123) (.tmp 124), type := 0, pos := "law.go:82", after := #[{ on := 22, ground := .data }, { on := 23, ground := .data }, { on := 17, ground := .guard }], guard := some (17, true) }) (v := ?_) rfl (by kernel_rfl) (by kernel_rfl) rfl ?_ ?_); rotate_left; focus (intro W hW; (try dsimp only at hW); go_split_ands; go_simp; (try (simp (disch := omega) only [IntWalk.i64_in]; (try go_simp))); (try (split; (next => omega); (try go_simp))); try rfl; done))
        try simp only [Act.put, List.setIfInBounds_toArray, List.set_cons_zero, List.set_cons_succ]
        first | (refine pl_no (i := 25) (oi := { dst := some 126, op := .load 22 (.tmp 125), type := 22, pos := "law.go:82", after := #[{ on := 24, ground := .data }, { on := 17, ground := .guard }], guard := some (17, true) }) rfl (by kernel_rfl) (by kernel_rfl) rfl ?_) | ((refine pl_yes (i := 25) (oi := { dst := some 126, op := .load 22 (.tmp 125), type := 22, pos := "law.go:82", after := #[{ on := 24, ground := .data }, { on := 17, ground := .guard }], guard := some (17, true) }) (v := ?_) rfl (by kernel_rfl) (by kernel_rfl) rfl ?_ ?_); rotate_left; focus (intro W hW; (try dsimp only at hW); go_split_ands; go_simp; (try (simp (disch := omega) only [IntWalk.i64_in]; (try go_simp))); (try (split; (next => omega); (try go_simp))); try rfl; done))
        try simp only [Act.put, List.setIfInBounds_toArray, List.set_cons_zero, List.set_cons_succ]
        refine pl_no (i := 20) (oi := { dst := some 121, op := .call { callee := .value (.func 80), args := #[.tmp 120], argTypes := #[28] }, type := 22, pos := "law.go:82", after := #[{ on := 19, ground := .data }, { on := 17, ground := .chain }, { on := 17, ground := .guard }], guard := some (17, true) }) rfl (by kernel_rfl) (by kernel_rfl) rfl ?_
        try simp only [Act.put, List.setIfInBounds_toArray, List.set_cons_zero, List.set_cons_succ]
        refine pl_no (i := 26) (oi := { dst := some 127, op := .call { callee := .value (.func 78), args := #[.tmp 121, .tmp 126], argTypes := #[22, 22] }, type := 4, pos := "law.go:82", after := #[{ on := 20, ground := .data }, { on := 25, ground := .data }, { on := 20, ground := .chain }, { on := 17, ground := .guard }], guard := some (17, true) }) rfl (by kernel_rfl) (by kernel_rfl) rfl ?_
        try simp only [Act.put, List.setIfInBounds_toArray, List.set_cons_zero, List.set_cons_succ]
        first | (refine pl_no (i := 27) (oi := { dst := some 128, op := .unOp .not 4 (.tmp 127), type := 4, pos := "law.go:82", after := #[{ on := 26, ground := .data }, { on := 17, ground := .guard }], guard := some (17, true) }) rfl (by kernel_rfl) (by kernel_rfl) rfl ?_) | ((refine pl_yes (i := 27) (oi := { dst := some 128, op := .unOp .not 4 (.tmp 127), type := 4, pos := "law.go:82", after := #[{ on := 26, ground := .data }, { on := 17, ground := .guard }], guard := some (17, true) }) (v := ?_) rfl (by kernel_rfl) (by kernel_rfl) rfl ?_ ?_); rotate_left; focus (intro W hW; (try dsimp only at hW); go_split_ands; go_simp; (try (simp (disch := omega) only [IntWalk.i64_in]; (try go_simp))); (try (split; (next => omega); (try go_simp))); try rfl; done))
        try simp only [Act.put, List.setIfInBounds_toArray, List.set_cons_zero, List.set_cons_succ]
        first | (refine pl_no (i := 28) (oi := { dst := some 129, op := .pick (.tmp 118) (.tmp 128) (.const (.bool false)), type := 4, pos := "law.go:82", after := #[{ on := 17, ground := .data }, { on := 27, ground := .data }, { on := 15, ground := .guard }], guard := some (15, false) }) rfl (by kernel_rfl) (by kernel_rfl) rfl ?_) | ((refine pl_yes (i := 28) (oi := { dst := some 129, op := .pick (.tmp 118) (.tmp 128) (.const (.bool false)), type := 4, pos := "law.go:82", after := #[{ on := 17, ground := .data }, { on := 27, ground := .data }, { on := 15, ground := .guard }], guard := some (15, false) }) (v := ?_) rfl (by kernel_rfl) (by kernel_rfl) rfl ?_ ?_); rotate_left; focus (intro W hW; (try dsimp only at hW); go_split_ands; go_simp; (try (simp (disch := omega) only [IntWalk.i64_in]; (try go_simp))); (try (split; (next => omega); (try go_simp))); try rfl; done))
        try simp only [Act.put, List.setIfInBounds_toArray, List.set_cons_zero, List.set_cons_succ]
        ((refine pl_yes (i := 29) (oi := { dst := some 130, op := .pick (.tmp 116) (.const (.bool true)) (.tmp 129), type := 4, pos := "law.go:82", after := #[{ on := 15, ground := .data }, { on := 28, ground := .data }], guard := none }) (v := ?_) rfl (by kernel_rfl) (by kernel_rfl) rfl ?_ ?_); rotate_left; focus (intro W hW; (try dsimp only at hW); go_split_ands; go_simp; (try (simp (disch := omega) only [IntWalk.i64_in]; (try go_simp))); (try (split; (next => omega); (try go_simp))); try rfl; done))
        try simp only [Act.put, List.setIfInBounds_toArray, List.set_cons_zero, List.set_cons_succ]
        ((refine pl_yes (i := 30) (oi := { dst := some 131, op := .move (.tmp 130), type := 4, pos := "law.go:82", after := #[{ on := 29, ground := .data }, { on := 26, ground := .chain }], guard := none }) (v := ?_) rfl (by kernel_rfl) (by kernel_rfl) rfl ?_ ?_); rotate_left; focus (intro W hW; (try dsimp only at hW); go_split_ands; go_simp; (try (simp (disch := omega) only [IntWalk.i64_in]; (try go_simp))); (try (split; (next => omega); (try go_simp))); try rfl; done))
        try simp only [Act.put, List.setIfInBounds_toArray, List.set_cons_zero, List.set_cons_succ]
        first | (refine pl_no (i := 31) (oi := { dst := some 132, op := .move (.tmp 14), type := 4, pos := "law.go:82", after := #[{ on := 30, ground := .guard }], guard := some (30, false) }) rfl (by kernel_rfl) (by kernel_rfl) rfl ?_) | ((refine pl_yes (i := 31) (oi := { dst := some 132, op := .move (.tmp 14), type := 4, pos := "law.go:82", after := #[{ on := 30, ground := .guard }], guard := some (30, false) }) (v := ?_) rfl (by kernel_rfl) (by kernel_rfl) rfl ?_ ?_); rotate_left; focus (intro W hW; (try dsimp only at hW); go_split_ands; go_simp; (try (simp (disch := omega) only [IntWalk.i64_in]; (try go_simp))); (try (split; (next => omega); (try go_simp))); try rfl; done))
        try simp only [Act.put, List.setIfInBounds_toArray, List.set_cons_zero, List.set_cons_succ]
        first | (refine pl_no (i := 32) (oi := { dst := some 133, op := .unOp .not 4 (.tmp 132), type := 4, pos := "law.go:82", after := #[{ on := 31, ground := .data }, { on := 30, ground := .guard }], guard := some (30, false) }) rfl (by kernel_rfl) (by kernel_rfl) rfl ?_) | ((refine pl_yes (i := 32) (oi := { dst := some 133, op := .unOp .not 4 (.tmp 132), type := 4, pos := "law.go:82", after := #[{ on := 31, ground := .data }, { on := 30, ground := .guard }], guard := some (30, false) }) (v := ?_) rfl (by kernel_rfl) (by kernel_rfl) rfl ?_ ?_); rotate_left; focus (intro W hW; (try dsimp only at hW); go_split_ands; go_simp; (try (simp (disch := omega) only [IntWalk.i64_in]; (try go_simp))); (try (split; (next => omega); (try go_simp))); try rfl; done))
        try simp only [Act.put, List.setIfInBounds_toArray, List.set_cons_zero, List.set_cons_succ]
        first | (refine pl_no (i := 33) (oi := { dst := some 134, op := .move (.tmp 133), type := 4, pos := "law.go:82", after := #[{ on := 32, ground := .data }, { on := 30, ground := .chain }, { on := 30, ground := .guard }], guard := some (30, false) }) rfl (by kernel_rfl) (by kernel_rfl) rfl ?_) | ((refine pl_yes (i := 33) (oi := { dst := some 134, op := .move (.tmp 133), type := 4, pos := "law.go:82", after := #[{ on := 32, ground := .data }, { on := 30, ground := .chain }, { on := 30, ground := .guard }], guard := some (30, false) }) (v := ?_) rfl (by kernel_rfl) (by kernel_rfl) rfl ?_ ?_); rotate_left; focus (intro W hW; (try dsimp only at hW); go_split_ands; go_simp; (try (simp (disch := omega) only [IntWalk.i64_in]; (try go_simp))); (try (split; (next => omega); (try go_simp))); try rfl; done))
        try simp only [Act.put, List.setIfInBounds_toArray, List.set_cons_zero, List.set_cons_succ]
        first | (refine pl_no (i := 34) (oi := { dst := some 135, op := .fieldAddr 88 (.tmp 7) 1, type := 0, pos := "law.go:82", after := #[{ on := 33, ground := .guard }], guard := some (33, true) }) rfl (by kernel_rfl) (by kernel_rfl) rfl ?_) | ((refine pl_yes (i := 34) (oi := { dst := some 135, op := .fieldAddr 88 (.tmp 7) 1, type := 0, pos := "law.go:82", after := #[{ on := 33, ground := .guard }], guard := some (33, true) }) (v := ?_) rfl (by kernel_rfl) (by kernel_rfl) rfl ?_ ?_); rotate_left; focus (intro W hW; (try dsimp only at hW); go_split_ands; go_simp; (try (simp (disch := omega) only [IntWalk.i64_in]; (try go_simp))); (try (split; (next => omega); (try go_simp))); try rfl; done))
        try simp only [Act.put, List.setIfInBounds_toArray, List.set_cons_zero, List.set_cons_succ]
        first | (refine pl_no (i := 35) (oi := { dst := some 136, op := .load 28 (.tmp 135), type := 28, pos := "law.go:82", after := #[{ on := 34, ground := .data }, { on := 33, ground := .guard }], guard := some (33, true) }) rfl (by kernel_rfl) (by kernel_rfl) rfl ?_) | ((refine pl_yes (i := 35) (oi := { dst := some 136, op := .load 28 (.tmp 135), type := 28, pos := "law.go:82", after := #[{ on := 34, ground := .data }, { on := 33, ground := .guard }], guard := some (33, true) }) (v := ?_) rfl (by kernel_rfl) (by kernel_rfl) rfl ?_ ?_); rotate_left; focus (intro W hW; (try dsimp only at hW); go_split_ands; go_simp; (try (simp (disch := omega) only [IntWalk.i64_in]; (try go_simp))); (try (split; (next => omega); (try go_simp))); try rfl; done))
        try simp only [Act.put, List.setIfInBounds_toArray, List.set_cons_zero, List.set_cons_succ]
        first | (refine pl_no (i := 36) (oi := { dst := some 137, op := .call { callee := .builtin .len, args := #[.tmp 136], argTypes := #[28] }, type := 3, pos := "law.go:82", after := #[{ on := 35, ground := .data }, { on := 33, ground := .guard }], guard := some (33, true) }) rfl (by kernel_rfl) (by kernel_rfl) rfl ?_) | ((refine pl_yes (i := 36) (oi := { dst := some 137, op := .call { callee := .builtin .len, args := #[.tmp 136], argTypes := #[28] }, type := 3, pos := "law.go:82", after := #[{ on := 35, ground := .data }, { on := 33, ground := .guard }], guard := some (33, true) }) (v := ?_) rfl (by kernel_rfl) (by kernel_rfl) rfl ?_ ?_); rotate_left; focus (intro W hW; (try dsimp only at hW); go_split_ands; go_simp; (try (simp (disch := omega) only [IntWalk.i64_in]; (try go_simp))); (try (split; (next => omega); (try go_simp))); try rfl; done))
        try simp only [Act.put, List.setIfInBounds_toArray, List.set_cons_zero, List.set_cons_succ]
        first | (refine pl_no (i := 37) (oi := { dst := some 138, op := .binOp .gtr 3 (.tmp 137) (.const (.int .i64 0)) 3, type := 4, pos := "law.go:82", after := #[{ on := 36, ground := .data }, { on := 33, ground := .guard }], guard := some (33, true) }) rfl (by kernel_rfl) (by kernel_rfl) rfl ?_) | ((refine pl_yes (i := 37) (oi := { dst := some 138, op := .binOp .gtr 3 (.tmp 137) (.const (.int .i64 0)) 3, type := 4, pos := "law.go:82", after := #[{ on := 36, ground := .data }, { on := 33, ground := .guard }], guard := some (33, true) }) (v := ?_) rfl (by kernel_rfl) (by kernel_rfl) rfl ?_ ?_); rotate_left; focus (intro W hW; (try dsimp only at hW); go_split_ands; go_simp; (try (simp (disch := omega) only [IntWalk.i64_in]; (try go_simp))); (try (split; (next => omega); (try go_simp))); try rfl; done))
        try simp only [Act.put, List.setIfInBounds_toArray, List.set_cons_zero, List.set_cons_succ]
        first | (refine pl_no (i := 38) (oi := { dst := some 139, op := .pick (.tmp 134) (.tmp 138) (.const (.bool false)), type := 4, pos := "law.go:82", after := #[{ on := 33, ground := .data }, { on := 37, ground := .data }, { on := 30, ground := .guard }], guard := some (30, false) }) rfl (by kernel_rfl) (by kernel_rfl) rfl ?_) | ((refine pl_yes (i := 38) (oi := { dst := some 139, op := .pick (.tmp 134) (.tmp 138) (.const (.bool false)), type := 4, pos := "law.go:82", after := #[{ on := 33, ground := .data }, { on := 37, ground := .data }, { on := 30, ground := .guard }], guard := some (30, false) }) (v := ?_) rfl (by kernel_rfl) (by kernel_rfl) rfl ?_ ?_); rotate_left; focus (intro W hW; (try dsimp only at hW); go_split_ands; go_simp; (try (simp (disch := omega) only [IntWalk.i64_in]; (try go_simp))); (try (split; (next => omega); (try go_simp))); try rfl; done))
        try simp only [Act.put, List.setIfInBounds_toArray, List.set_cons_zero, List.set_cons_succ]
        ((refine pl_yes (i := 39) (oi := { dst := some 140, op := .pick (.tmp 131) (.const (.bool true)) (.tmp 139), type := 4, pos := "law.go:82", after := #[{ on := 30, ground := .data }, { on := 38, ground := .data }], guard := none }) (v := ?_) rfl (by kernel_rfl) (by kernel_rfl) rfl ?_ ?_); rotate_left; focus (intro W hW; (try dsimp only at hW); go_split_ands; go_simp; (try (simp (disch := omega) only [IntWalk.i64_in]; (try go_simp))); (try (split; (next => omega); (try go_simp))); try rfl; done))
        try simp only [Act.put, List.setIfInBounds_toArray, List.set_cons_zero, List.set_cons_succ]
        refine pl_done (by kernel_rfl)  ?_
        rintro w6 ⟨-, -, -, h6⟩
        have c6 := hcA0.trans (h35.trans h6)
        clear y0 y1 y2 y3 y4 a0 a1 g0 g1 g2
        go_wp2_with (with_reducible first | refine stop_append ?_ | refine stop_copy ?_ | refine stop_make ?_ | refine stop_lookup ?_ | refine stop_update ?_ | refine stop_slice ?_ | refine stop_range ?_ | refine stop_next ?_ | refine stop_convert ⟨_, rfl⟩ ?_ | refine stop_convertB ⟨_, _, _, rfl⟩ ?_ | refine stop_eqSlice ⟨_, _, rfl⟩ ?_)
        go_roundw
        case rel => exact ⟨i + 2, _, by omega, rfl, congrArg (Value.int .i64) (by omega), c6⟩
        case measure => simp [intOf]; omega
    focus
      have hzo : z < f ∨ f + mm < z := by have := Hmm.out; omega
      have Hrn := Lib.hid (Hrno.out z hzo)
      have Hsn1 := Lib.hid (Hsn.out z hzo)
      have Hds1 := Lib.hid (Hds.out z)
      have Hdf1 := Lib.hid (Hdf.out z)
      rw [Hout.out z hzo] at Hds1 Hdf1
      simp only [atI_none] at Hds1 Hdf1
      clear hz hzo hin
      have hz64 : -1 ≤ z ∧ z ≤ 66 := by have := Hz.out; omega
      go_wp2_with (with_reducible first | refine stop_append ?_ | refine stop_copy ?_ | refine stop_make ?_ | refine stop_lookup ?_ | refine stop_update ?_ | refine stop_slice ?_ | refine stop_range ?_ | refine stop_next ?_ | refine stop_convert ⟨_, rfl⟩ ?_ | refine stop_convertB ⟨_, _, _, rfl⟩ ?_ | refine stop_eqSlice ⟨_, _, rfl⟩ ?_)
      refine (Hrn.out _ hcr).mono ?_
      rintro e w2 ⟨rfl, h2⟩
      have r2 := hcr.trans h2
      have hcA := (Chg.refl No w2).alloc (.cells #[.int .i64 0, .slice none 0 0, .slice none 0 0, .slice none 0 0, .bool false] 88)
      go_wp2_with (with_reducible first | refine stop_append ?_ | refine stop_copy ?_ | refine stop_make ?_ | refine stop_lookup ?_ | refine stop_update ?_ | refine stop_slice ?_ | refine stop_range ?_ | refine stop_next ?_ | refine stop_convert ⟨_, rfl⟩ ?_ | refine stop_convertB ⟨_, _, _, rfl⟩ ?_ | refine stop_eqSlice ⟨_, _, rfl⟩ ?_)
      generalize w2.alloc (.cells #[.int .i64 0, .slice none 0 0, .slice none 0 0, .slice none 0 0, .bool false] 88) = wA at *
      have rA := r2.trans hcA
      refine (Hsn1.out _ rA).mono ?_
      rintro e w3 ⟨rfl, h3⟩
      have c3 := hc.trans (h2.trans (hcA.trans h3))
      have p31 := c3.obj o31 (not_no _)
      replace a0 := cell_obj (i := 0) p31 rfl
      replace a1 := cell_obj (i := 1) p31 rfl
      have r3 := rA.trans h3
      go_wp2_with (with_reducible first | refine stop_append ?_ | refine stop_copy ?_ | refine stop_make ?_ | refine stop_lookup ?_ | refine stop_update ?_ | refine stop_slice ?_ | refine stop_range ?_ | refine stop_next ?_ | refine stop_convert ⟨_, rfl⟩ ?_ | refine stop_convertB ⟨_, _, _, rfl⟩ ?_ | refine stop_eqSlice ⟨_, _, rfl⟩ ?_)
      refine (Hds1.out _ r3).mono ?_
      rintro e w4 ⟨rfl, h4⟩
      replace a0 := h4.cell a0 (not_no _)
      replace a1 := h4.cell a1 (not_no _)
      have r4 := r3.trans h4
      go_wp2_with (with_reducible first | refine stop_append ?_ | refine stop_copy ?_ | refine stop_make ?_ | refine stop_lookup ?_ | refine stop_update ?_ | refine stop_slice ?_ | refine stop_range ?_ | refine stop_next ?_ | refine stop_convert ⟨_, rfl⟩ ?_ | refine stop_convertB ⟨_, _, _, rfl⟩ ?_ | refine stop_eqSlice ⟨_, _, rfl⟩ ?_)
      refine (Hdf1.out _ r4).mono ?_
      rintro e w5 ⟨rfl, h5⟩
      have c5 := c3.trans (h4.trans h5)
      go_wp2_with (with_reducible first | refine stop_append ?_ | refine stop_copy ?_ | refine stop_make ?_ | refine stop_lookup ?_ | refine stop_update ?_ | refine stop_slice ?_ | refine stop_range ?_ | refine stop_next ?_ | refine stop_convert ⟨_, rfl⟩ ?_ | refine stop_convertB ⟨_, _, _, rfl⟩ ?_ | refine stop_eqSlice ⟨_, _, rfl⟩ ?_)
      go_roundw
      case rel => exact ⟨m + 1, z + 1, by omega, by have := Hz.out; omega, rfl, c5⟩
      case measure => have := Hmm.out; simp [intOf]; omega
end Go.Proofs.Ytbjpoamnglfjeaa


/- Walk of the law RegisterAll. -/
set_option linter.unusedVariables false
set_option linter.unusedSimpArgs false
namespace Go.Proofs.Ytbjpoamnglfjeaa
open Go.RowKit Cb

theorem hcvN {w w' : World} {B p b : Nat} {vL vT : Value} {rows : List Rw} (hr : RegS w B p rows) (h : RefS (fun k => RegF w p k ∨ k = b) w vL vT rows) (hc : Chg No w w') : RefS (fun k => RegF w' p k ∨ k = b) w' vL vT rows :=
  ⟨(h.l.keepNo hc).weak (fun k _ hk => hk.imp (regF_no hr hc) id), (h.t.keepNo hc).weak (fun k _ hk => hk.imp (regF_no hr hc) id)⟩
set_option maxRecDepth 100000 in
set_option maxHeartbeats 1000000 in
theorem rfind_neg (B p : Nat) (rows : List Rw) (w : World) (h : RegS w B p rows) (hi : RowsI rows) (pos : Int) (hp : pos < 0) :
    Calls Try.prog 38 #[.pointer (some ⟨p, 0, none⟩), .int .i64 pos] w (FindOut none w) := by
  clear h hi
  have o4 := alloc_obj w (.cells #[.int .i64 0, .int .i64 0] 50)
  have hca := (Chg.refl No w).alloc (.cells #[.int .i64 0, .int .i64 0] 50)
  have z0 := cell_obj (i := 0) o4 rfl
  have z1 := cell_obj (i := 1) o4 rfl
  have f0 := free_obj (i := 0) o4
  have f1 := free_obj (i := 1) o4
  go_enter Try.func38, Try.ntmps38
  go_wp2_with (with_reducible first | refine stop_append ?_ | refine stop_copy ?_ | refine stop_make ?_ | refine stop_lookup ?_ | refine stop_update ?_ | refine stop_slice ?_ | refine stop_range ?_ | refine stop_next ?_ | refine stop_convert ⟨_, rfl⟩ ?_ | refine stop_convertB ⟨_, _, _, rfl⟩ ?_ | refine stop_eqSlice ⟨_, _, rfl⟩ ?_)
  refine bodyPost_ret (v := .tuple #[.agg #[.int .i64 0, .int .i64 0], .int .i64 1]) (by simp [results, Try.results38, go_sem, *]) rfl ?_
  exact ⟨rfl, hca⟩
set_option maxRecDepth 100000 in
set_option maxHeartbeats 8000000 in
theorem rall_any (t : Int) (vq vs v : Value) (q : List Int) (s : List (List Int)) (l : List Op) (pos : Int) (w : World) (hq : Sl No w vq q) (hs : Sl No w vs s) (h : Sl No w v l) (hl : l.length * 80 ≤ 140737488355328) (hc : CfgI q s) (ho : ∀ o ∈ l, OpI o) (hpos : pos ≤ 9223372036854775807) :
    Calls Try.prog 8 #[cfgV t vq vs, v, .int .i64 pos] w fun e w' => e = .returned (.bool true) ∧ Chg No w w' := by
  have Hfew := Lib.hid (fun W (hW : Chg No w W) => fewr_any No No No t vq vs v q s l W (hq.keepNo hW) (hs.keepNo hW) (h.keepNo hW) (by omega) hc ho)
  have Hno := Lib.hid (fun (hr : rightC t q s = false) W (hW : Chg No w W) => new_no No No t vq vs q s W (hq.keepNo hW) (hs.keepNo hW) hc.1 (by have := hc.2.1; omega) hc.2.2 hr)
  have Hyes := Lib.hid (fun (hr : rightC t q s = true) W (hW : Chg No w W) => new_yes t vq vs q s W (hq.keepNo hW) (hs.keepNo hW) hr)
  have Hrt := Lib.hid (fun W (hW : Chg No w W) => cright_any No No t vq vs q s W (hq.keepNo hW) (hs.keepNo hW) hc.1 (by have := hc.2.1; omega) hc.2.2)
  have Hal := Lib.hid (fun W => ralive_any W)
  have Hq := Lib.hid hq; have Hs' := Lib.hid hs
  obtain ⟨Aq, cq, rfl⟩ := hq.slice
  obtain ⟨As, cs, rfl⟩ := hs.slice
  obtain ⟨A, c, rfl⟩ := h.slice
  have Hs := Lib.hid h
  have Ho := Lib.hid ho
  unfold cfgV at *
  have o1 := alloc_obj w (.cells #[.int .i64 t, .slice Aq q.length cq, .slice As s.length cs] 63)
  have hc0 := (Chg.refl No w).alloc (.cells #[.int .i64 t, .slice Aq q.length cq, .slice As s.length cs] 63)
  have a0 := cell_obj (i := 0) o1 rfl
  have a1 := cell_obj (i := 1) o1 rfl
  have a2 := cell_obj (i := 2) o1 rfl
  have hcX := hc
  clear hq hs h hc ho
  go_enter Try.func8, Try.ntmps8
  go_wp2_with (with_reducible first | refine stop_append ?_ | refine stop_copy ?_ | refine stop_make ?_ | refine stop_lookup ?_ | refine stop_update ?_ | refine stop_slice ?_ | refine stop_range ?_ | refine stop_next ?_ | refine stop_convert ⟨_, rfl⟩ ?_ | refine stop_convertB ⟨_, _, _, rfl⟩ ?_ | refine stop_eqSlice ⟨_, _, rfl⟩ ?_)
  generalize w.alloc (.cells #[.int .i64 t, .slice Aq q.length cq, .slice As s.length cs] 63) = w0 at *
  generalize hb0 : w.heap.size = b0 at *
  have Hb0 := Lib.hid hb0
  clear hb0
  refine (Hfew.out _ hc0).mono ?_
  rintro e w1 ⟨⟨b, rfl⟩, hc1⟩
  have cw1 := hc0.trans hc1
  rcases b with _ | _
  · go_wp2_with (with_reducible first | refine stop_append ?_ | refine stop_copy ?_ | refine stop_make ?_ | refine stop_lookup ?_ | refine stop_update ?_ | refine stop_slice ?_ | refine stop_range ?_ | refine stop_next ?_ | refine stop_convert ⟨_, rfl⟩ ?_ | refine stop_convertB ⟨_, _, _, rfl⟩ ?_ | refine stop_eqSlice ⟨_, _, rfl⟩ ?_)
    refine (Hal.out _).mono ?_
    rintro e w3 ⟨rfl, hc3⟩
    go_wp2_with (with_reducible first | refine stop_append ?_ | refine stop_copy ?_ | refine stop_make ?_ | refine stop_lookup ?_ | refine stop_update ?_ | refine stop_slice ?_ | refine stop_range ?_ | refine stop_next ?_ | refine stop_convert ⟨_, rfl⟩ ?_ | refine stop_convertB ⟨_, _, _, rfl⟩ ?_ | refine stop_eqSlice ⟨_, _, rfl⟩ ?_)
    go_ret
    exact ⟨rfl, cw1.trans hc3⟩
  have o11 := hc1.obj o1 (not_no _)
  replace a0 := cell_obj (i := 0) o11 rfl
  replace a1 := cell_obj (i := 1) o11 rfl
  replace a2 := cell_obj (i := 2) o11 rfl
  go_wp2_with (with_reducible first | refine stop_append ?_ | refine stop_copy ?_ | refine stop_make ?_ | refine stop_lookup ?_ | refine stop_update ?_ | refine stop_slice ?_ | refine stop_range ?_ | refine stop_next ?_ | refine stop_convert ⟨_, rfl⟩ ?_ | refine stop_convertB ⟨_, _, _, rfl⟩ ?_ | refine stop_eqSlice ⟨_, _, rfl⟩ ?_)
  rcases hr : rightC t q s with _ | _
  · rw [hr] at Hrt
    refine (Hno.out hr w1 cw1).mono ?_
    rintro e w2 ⟨rfl, hc2⟩
    have cw2 := cw1.trans hc2
    replace a0 := hc2.cell a0 (not_no _)
    replace a1 := hc2.cell a1 (not_no _)
    replace a2 := hc2.cell a2 (not_no _)
    go_wp2_with (with_reducible first | refine stop_append ?_ | refine stop_copy ?_ | refine stop_make ?_ | refine stop_lookup ?_ | refine stop_update ?_ | refine stop_slice ?_ | refine stop_range ?_ | refine stop_next ?_ | refine stop_convert ⟨_, rfl⟩ ?_ | refine stop_convertB ⟨_, _, _, rfl⟩ ?_ | refine stop_eqSlice ⟨_, _, rfl⟩ ?_)
    refine (Hrt.out _ cw2).mono ?_
    rintro e w3 ⟨rfl, hc3⟩
    have cw3 := cw2.trans hc3
    go_wp2_with (with_reducible first | refine stop_append ?_ | refine stop_copy ?_ | refine stop_make ?_ | refine stop_lookup ?_ | refine stop_update ?_ | refine stop_slice ?_ | refine stop_range ?_ | refine stop_next ?_ | refine stop_convert ⟨_, rfl⟩ ?_ | refine stop_convertB ⟨_, _, _, rfl⟩ ?_ | refine stop_eqSlice ⟨_, _, rfl⟩ ?_)
    refine (Hal.out _).mono ?_
    rintro e w4 ⟨rfl, hc4⟩
    go_wp2_with (with_reducible first | refine stop_append ?_ | refine stop_copy ?_ | refine stop_make ?_ | refine stop_lookup ?_ | refine stop_update ?_ | refine stop_slice ?_ | refine stop_range ?_ | refine stop_next ?_ | refine stop_convert ⟨_, rfl⟩ ?_ | refine stop_convertB ⟨_, _, _, rfl⟩ ?_ | refine stop_eqSlice ⟨_, _, rfl⟩ ?_)
    go_ret
    exact ⟨rfl, cw3.trans hc4⟩
  · rw [hr] at Hrt
    have Hri := Lib.hid (new_reg hr)
    refine (Hyes.out hr w1 cw1).mono ?_
    rintro e w2 ⟨p, rfl, hc2, hreg⟩
    have Hreg := Lib.hid hreg
    have cw2 := cw1.trans hc2
    replace a0 := hc2.cell a0 (not_no _)
    replace a1 := hc2.cell a1 (not_no _)
    replace a2 := hc2.cell a2 (not_no _)
    clear hreg hr Hno Hyes Hfew
    go_wp2_with (with_reducible first | refine stop_append ?_ | refine stop_copy ?_ | refine stop_make ?_ | refine stop_lookup ?_ | refine stop_update ?_ | refine stop_slice ?_ | refine stop_range ?_ | refine stop_next ?_ | refine stop_convert ⟨_, rfl⟩ ?_ | refine stop_convertB ⟨_, _, _, rfl⟩ ?_ | refine stop_eqSlice ⟨_, _, rfl⟩ ?_)
    refine (Hrt.out _ cw2).mono ?_
    rintro e w3 ⟨rfl, hc3⟩
    have cw3 := cw2.trans hc3
    replace a0 := hc3.cell a0 (not_no _)
    replace a1 := hc3.cell a1 (not_no _)
    replace a2 := hc3.cell a2 (not_no _)
    obtain ⟨B, hB⟩ : ∃ B, B = w1.heap.size := ⟨_, rfl⟩
    have Hreg2 := Lib.hid (Hreg.out.keepNo hc3)
    rw [← hB] at Hreg2
    have hwB : w.heap.size ≤ B := by have := cw1.size; omega
    have HsB := Lib.hid (fun W (hW : Chg (Ge B) w3 W) => ((Sl.up (Hs.out.keepNo cw1) (Nat.le_of_eq hB.symm)).keepNo (hc2.trans hc3)).keep hW)
    have hfl : Sl (RegF w3 p) (w3.alloc (.cells #[.int .i64 t, .slice Aq q.length cq, .slice As s.length cs] 63)) (.slice (some ⟨w3.heap.size, 0, none⟩) 1 1) (cfgsR [(t, q, s, [], false)]) :=
      Sl.lit1 rfl (cfg_mk t ((Hq.out.weak (fun b hb hk => by have := (regF_lt Hreg2.out hk).1; omega)).keepNo cw3) ((Hs'.out.weak (fun b hb hk => by have := (regF_lt Hreg2.out hk).1; omega)).keepNo cw3)) (fun hk => by have := (regF_lt Hreg2.out hk).2; omega)
    have hcL := (Chg.refl No w3).alloc (.cells #[.int .i64 t, .slice Aq q.length cq, .slice As s.length cs] 63)
    have hcQ := (Chg.refl No (w3.alloc (.cells #[.int .i64 t, .slice Aq q.length cq, .slice As s.length cs] 63))).alloc (.cells #[.slice (some ⟨w3.heap.size, 0, none⟩) 1 1, .slice none 0 0] 82)
    have o9 := alloc_obj (w3.alloc (.cells #[.int .i64 t, .slice Aq q.length cq, .slice As s.length cs] 63)) (.cells #[.slice (some ⟨w3.heap.size, 0, none⟩) 1 1, .slice none 0 0] 82)
    have hz9 : (w3.alloc (.cells #[.int .i64 t, .slice Aq q.length cq, .slice As s.length cs] 63)).heap.size = w3.heap.size + 1 := by simp
    rw [hz9] at o9
    have hc35 := hcL.trans hcQ
    have hz5 : ((w3.alloc (.cells #[.int .i64 t, .slice Aq q.length cq, .slice As s.length cs] 63)).alloc (.cells #[.slice (some ⟨w3.heap.size, 0, none⟩) 1 1, .slice none 0 0] 82)).heap.size = w3.heap.size + 1 + 1 := by simp
    have hBw3 : B ≤ w3.heap.size := by have := (hc2.trans hc3).size; omega
    have hqs0 : RefS (fun k => RegF ((w3.alloc (.cells #[.int .i64 t, .slice Aq q.length cq, .slice As s.length cs] 63)).alloc (.cells #[.slice (some ⟨w3.heap.size, 0, none⟩) 1 1, .slice none 0 0] 82)) p k ∨ k = w3.heap.size + 1) ((w3.alloc (.cells #[.int .i64 t, .slice Aq q.length cq, .slice As s.length cs] 63)).alloc (.cells #[.slice (some ⟨w3.heap.size, 0, none⟩) 1 1, .slice none 0 0] 82)) (.slice (some ⟨w3.heap.size, 0, none⟩) 1 1) (.slice none 0 0) [(t, q, s, [], false)] :=
      ⟨(hfl.weak (fun b hb hg => by
        rcases hg with hg | hg
        · exact regF_no Hreg2.out hc35 hg
        · omega)).keepNo hcQ, Sl.nil _ _ _ _⟩
    have hoff0 : Off ((w3.alloc (.cells #[.int .i64 t, .slice Aq q.length cq, .slice As s.length cs] 63)).alloc (.cells #[.slice (some ⟨w3.heap.size, 0, none⟩) 1 1, .slice none 0 0] 82)) p (w3.heap.size + 1) := Off.new Hreg2.out hc35 (by omega) (by omega)
    have hregX0 : RegX (fun k => k < B ∨ k = w3.heap.size + 1) ((w3.alloc (.cells #[.int .i64 t, .slice Aq q.length cq, .slice As s.length cs] 63)).alloc (.cells #[.slice (some ⟨w3.heap.size, 0, none⟩) 1 1, .slice none 0 0] 82)) B p [(t, q, s, [], false)] :=
      (RegX.more (F := Lt B) (G := fun k => k < B ∨ k = w3.heap.size + 1) Hreg2.out (fun k hk hg => by
        rcases hg with h | h
        · exact h
        · omega)).keepNo hc35
    have HregX0 := Lib.hid hregX0
    have Hqs0 := Lib.hid hqs0
    have Hoff0 := Lib.hid hoff0
    have HB := Lib.hid hB
    clear hfl hcL hcQ hz9 hregX0 hqs0 hoff0 o1 o11 hB
    go_wp2_with (with_reducible first | refine stop_append ?_ | refine stop_copy ?_ | refine stop_make ?_ | refine stop_lookup ?_ | refine stop_update ?_ | refine stop_slice ?_ | refine stop_range ?_ | refine stop_next ?_ | refine stop_convert ⟨_, rfl⟩ ?_ | refine stop_convertB ⟨_, _, _, rfl⟩ ?_ | refine stop_eqSlice ⟨_, _, rfl⟩ ?_)
    clear a0 a1 a2
    obtain ⟨b9, hb9⟩ : ∃ b, b = w3.heap.size + 1 := ⟨_, rfl⟩
    generalize (w3.alloc (.cells #[.int .i64 t, .slice Aq q.length cq, .slice As s.length cs] 63)).alloc (.cells #[.slice (some ⟨w3.heap.size, 0, none⟩) 1 1, .slice none 0 0] 82) = w5 at *
    rw [← hb9] at o9 HregX0 Hoff0 Hqs0 ⊢
    have hb9B : B ≤ b9 := by omega
    have hb95 : b9 < w5.heap.size := by omega
    clear hb9 hz5
    have c5 : Chg No w w5 := cw3.trans hc35
    have HsB5 := Lib.hid (fun W (hW : Chg (Ge B) w5 W) => HsB.out W (hc35.of_no.trans hW))
    go_loopw [11, 12, 13, 14, 15, 16, 17, 51] (fun _ _ _ _ _ _ _ v51 wr => ∃ (k : Nat) (rows : List Rw) (vL vT : Value), k ≤ l.length ∧ v51 = .int .i64 k ∧ Chg (Ge B) w5 wr ∧ RegX (fun k => k < B ∨ k = b9) wr B p rows ∧ RegI rows ∧ LastE rows ∧ RefS (fun k => RegF wr p k ∨ k = b9) wr vL vT rows ∧ wr.heap[b9]? = some (.cells #[vL, vT] 82 (0, 0)) ∧ Off wr p b9) (fun _ _ _ _ _ _ _ v51 _ => l.length - (intOf v51).toNat)
    case atStart => exact ⟨0, _, _, _, by omega, rfl, Chg.refl _ _, HregX0.out, Hri.out, (fun i h e => by
      have : i = 0 := by simp at h; omega
      subst this; rfl), Hqs0.out, o9, Hoff0.out⟩
    case round =>
      obtain ⟨k, rows, vL, vT, hk, rfl, hcr, hregX, hri, hle, hqs, p9, hoff⟩ := hrel
      by_cases hlt : k < l.length
      · have hregS := hregX.toS (fun _ h => .inl h)
        obtain ⟨b4, o4, vq4, vs4, vt4, rfl, -, hbl, sq, ss, st, k0, k1, k2, k3⟩ := op_get (HsB5.out wr hcr) k hlt
        obtain ⟨hcx, hlx⟩ := Ho.out _ (List.getElem_mem hlt)
        generalize l[k] = x at *
        obtain ⟨⟨xt, xq, xs⟩, xl⟩ := x
        simp only at k0 k1 k2 k3 sq ss st hcx hlx
        have hi0 := hri.1.1
        have hgf : ∀ b, b < wr.heap.size → (RegF wr p b ∨ b = b9) → Ge B b := fun b _ hb => by
          rcases hb with hb | hb
          · exact (regF_lt hregS hb).1
          · simp only [Ge]; omega
        have hsz := hoff.1
        have hF0 : ∀ b, (fun k => RegF wr p k ∨ k = b9) b → b < wr.heap.size := fun b hb => by
          rcases hb with hb | hb
          · exact (regF_lt hregS hb).2
          · omega
        have Hxq := Lib.hid sq
        have Hxs := Lib.hid ss
        have Hxt := Lib.hid st
        have Hdi := Lib.hid (fun vL vT (hqs : RefS (fun k => RegF wr p k ∨ k = b9) wr vL vT rows) W (hW : Chg No wr W) => dinstall_any (fun k => RegF wr p k ∨ k = b9) vL vT vq4 vs4 vt4 rows xt xq xs xl W (hqs.keepNo hW) hri (fun b hb => by have := hF0 b hb; have := hW.size; omega) ((sq.weak hgf).keepNo hW) ((ss.weak hgf).keepNo hW) ((st.weak hgf).keepNo hW) hcx hlx)
        have hfir := Lib.hid (install_reg xt xq xs hri hlx)
        have hfle := Lib.hid (install_lastE xt xq xs xl hi0 hle)
        have Hri2 := Lib.hid hri
        have Hle2 := Lib.hid hle
        obtain ⟨Bq, dq, rfl⟩ := sq.slice
        obtain ⟨Bs, ds, rfl⟩ := ss.slice
        obtain ⟨Bt, dt, rfl⟩ := st.slice
        obtain ⟨AL, cL, eL⟩ := hqs.l.slice
        obtain ⟨AT, cT, eT⟩ := hqs.t.slice
        obtain ⟨nL, hnL⟩ : ∃ n, n = (cfgsR rows).length := ⟨_, rfl⟩
        obtain ⟨nT, hnT⟩ : ∃ n, n = (tailsR rows).length := ⟨_, rfl⟩
        rw [← hnL] at eL
        rw [← hnT] at eT
        subst eL eT
        have Hdi2 := Lib.hid (Hdi.out _ _ hqs)
        have HregX := Lib.hid hregX
        have HregS := Lib.hid hregS
        have Hoff := Lib.hid hoff
        have HF0 := Lib.hid hF0
        generalize hR : installF rows xt xq xs xl = cr at *
        have HR := Lib.hid hR
        obtain ⟨code, rows2⟩ := cr
        unfold regV cfgV at Hdi2
        unfold DInst at Hdi2
        simp only at Hdi2 hfir hfle
        clear hnL hnT hqs hregX hri hle hregS hoff hgf sq ss st hR Hdi hF0
        have o8 := alloc_obj wr (.cells #[.int .i64 xt, .slice Bq xq.length dq, .slice Bs xs.length ds, .slice Bt xl.length dt] 71)
        have hc8 := (Chg.refl No wr).alloc (.cells #[.int .i64 xt, .slice Bq xq.length dq, .slice Bs xs.length ds, .slice Bt xl.length dt] 71)
        have c0 := cell_obj (i := 0) o8 rfl
        have c1 := cell_obj (i := 1) o8 rfl
        have c2 := cell_obj (i := 2) o8 rfl
        have c3 := cell_obj (i := 3) o8 rfl
        have p9A := hc8.obj p9 (not_no _)
        have q0 := cell_obj (i := 0) p9A rfl
        have q1 := cell_obj (i := 1) p9A rfl
        have hsA : wr.heap.size < (wr.alloc (.cells #[.int .i64 xt, .slice Bq xq.length dq, .slice Bs xs.length ds, .slice Bt xl.length dt] 71)).heap.size := by simp
        go_wp2_with (with_reducible first | refine stop_append ?_ | refine stop_copy ?_ | refine stop_make ?_ | refine stop_lookup ?_ | refine stop_update ?_ | refine stop_slice ?_ | refine stop_range ?_ | refine stop_next ?_ | refine stop_convert ⟨_, rfl⟩ ?_ | refine stop_convertB ⟨_, _, _, rfl⟩ ?_ | refine stop_eqSlice ⟨_, _, rfl⟩ ?_)
        obtain ⟨b8, hb8⟩ : ∃ b, b = wr.heap.size := ⟨_, rfl⟩
        generalize wr.alloc (.cells #[.int .i64 xt, .slice Bq xq.length dq, .slice Bs xs.length ds, .slice Bt xl.length dt] 71) = wA at *
        rw [← hb8] at c0 c1 c2 c3 o8 hsA ⊢
        have Hb8 := Lib.hid hb8
        clear hb8 k0 k1 k2 k3 hbl q0 q1
        refine (Hdi2.out wA hc8).mono ?_
        rintro e wB ⟨vL2, vT2, rfl, hcB, hqs2⟩
        unfold regV
        obtain ⟨AL2, cL2, eL⟩ := hqs2.l.slice
        obtain ⟨AT2, cT2, eT⟩ := hqs2.t.slice
        obtain ⟨nL2, hnL⟩ : ∃ n, n = (cfgsR rows2).length := ⟨_, rfl⟩
        obtain ⟨nT2, hnT⟩ : ∃ n, n = (tailsR rows2).length := ⟨_, rfl⟩
        rw [← hnL] at eL
        rw [← hnT] at eT
        subst eL eT
        clear hnL hnT
        have hcC := (Chg.refl No wB).alloc (.cells #[.slice AL2 nL2 cL2, .slice AT2 nT2 cT2] 82)
        have o12 := alloc_obj wB (.cells #[.slice AL2 nL2 cL2, .slice AT2 nT2 cT2] 82)
        have p9C := (hcB.trans hcC).obj p9A (not_no _)
        have z0 := cell_obj (i := 0) p9C rfl
        have z1 := cell_obj (i := 1) p9C rfl
        have f0 := free_obj (i := 0) p9C
        have f1 := free_obj (i := 1) p9C
        have y0 := cell_obj (i := 0) o12 rfl
        have y1 := cell_obj (i := 1) o12 rfl
        have hcrC := hc8.trans (hcB.trans hcC)
        have Hqs2 := Lib.hid (hqs2.keepNo hcC)
        have o8C := (hcB.trans hcC).obj o8 (not_no _)
        clear c0 c1 c2 c3 hqs2 p9A
        go_wp2_with (with_reducible first | refine stop_append ?_ | refine stop_copy ?_ | refine stop_make ?_ | refine stop_lookup ?_ | refine stop_update ?_ | refine stop_slice ?_ | refine stop_range ?_ | refine stop_next ?_ | refine stop_convert ⟨_, rfl⟩ ?_ | refine stop_convertB ⟨_, _, _, rfl⟩ ?_ | refine stop_eqSlice ⟨_, _, rfl⟩ ?_)
        generalize wB.alloc (.cells #[.slice AL2 nL2 cL2, .slice AT2 nT2 cT2] 82) = wC at *
        obtain ⟨p9D, hc9⟩ := set2 p9C (.slice AL2 nL2 cL2) (.slice AT2 nT2 cT2)
        have hb89 : b8 ≠ b9 := by have := Hoff.out.1; have := Hb8.out; omega
        have o8D := hc9.obj o8C (fun h => hb89 h)
        have hregXC := HregX.out.keepNo hcrC
        have hregSC := HregS.out.keepNo hcrC
        have offC := Hoff.out.no HregS.out hcrC
        have hnp : ∀ k, RegF wC p k → ¬ At b9 k := fun k hk h => offC.2 ((show k = b9 from h) ▸ hk)
        have hregXD : RegX (fun k => k < B ∨ k = b9) (((wC.setCell ⟨b9, 0, none⟩ (.slice AL2 nL2 cL2)).setCell ⟨b9, 1, none⟩ (.slice AT2 nT2 cT2))) B p rows := hregXC.keep hc9 (fun k _ hk => .inr hk) (hnp p (.inl rfl)) (fun v hv k hk => hnp k (.inr ⟨v, hv, hk⟩))
        obtain ⟨pv, hpv, -⟩ := regS_cell hregSC
        have hRF : ∀ k, RegF (((wC.setCell ⟨b9, 0, none⟩ (.slice AL2 nL2 cL2)).setCell ⟨b9, 1, none⟩ (.slice AT2 nT2 cT2))) p k → RegF wr p k := fun k hk => regF_no HregS.out hcrC (regF_of (by rw [hc9.cell hpv (hnp p (.inl rfl)), hpv]) hk)
        have hzD := hc9.size
        have offD : Off (((wC.setCell ⟨b9, 0, none⟩ (.slice AL2 nL2 cL2)).setCell ⟨b9, 1, none⟩ (.slice AT2 nT2 cT2))) p b9 := ⟨lt_of_heap p9D, fun hk => Hoff.out.2 (hRF _ hk)⟩
        have off8D : Off (((wC.setCell ⟨b9, 0, none⟩ (.slice AL2 nL2 cL2)).setCell ⟨b9, 1, none⟩ (.slice AT2 nT2 cT2))) p b8 := ⟨lt_of_heap o8D, fun hk => by have := (regF_lt HregS.out (hRF _ hk)).2; have := Hb8.out; omega⟩
        have hqsD : RefS (fun k => RegF wr p k ∨ k = b9) (((wC.setCell ⟨b9, 0, none⟩ (.slice AL2 nL2 cL2)).setCell ⟨b9, 1, none⟩ (.slice AT2 nT2 cT2))) (.slice AL2 nL2 cL2) (.slice AT2 nT2 cT2) rows2 := ⟨Hqs2.out.l.keep (hc9.weak (fun k _ hk => .inr hk)), Hqs2.out.t.keep (hc9.weak (fun k _ hk => .inr hk))⟩
        have cD : Chg (Ge B) wr (((wC.setCell ⟨b9, 0, none⟩ (.slice AL2 nL2 cL2)).setCell ⟨b9, 1, none⟩ (.slice AT2 nT2 cT2))) := hcrC.of_no.trans (hc9.weak (fun k _ hk => by simp only [At] at hk; simp only [Ge]; omega))
        have Hqs := Lib.hid hqsD; have HregXD := Lib.hid hregXD; have HRF := Lib.hid hRF; have HoffD := Lib.hid offD; have Hoff8 := Lib.hid off8D
        clear hqsD hregXD hRF offD off8D hregXC hregSC offC hnp hpv z0 z1 f0 f1 y0 y1 o12 hcC p9C o8C Hqs2
        generalize ((wC.setCell ⟨b9, 0, none⟩ (.slice AL2 nL2 cL2)).setCell ⟨b9, 1, none⟩ (.slice AT2 nT2 cT2)) = wD at *
        have HS := Lib.hid (show ∀ W : World, W.heap[b8]? = some (.cells #[.int .i64 xt, .slice Bq xq.length dq, .slice Bs xs.length ds, .slice Bt xl.length dt] 71) → W.heap[b9]? = some (.cells #[.slice AL2 nL2 cL2, .slice AT2 nT2 cT2] 82) → (fun W => ((W.cell? ⟨b8, 0, none⟩ = some (.int .i64 xt) ∧ W.cell? ⟨b8, 1, none⟩ = some (.slice Bq xq.length dq)) ∧ (W.cell? ⟨b8, 2, none⟩ = some (.slice Bs xs.length ds) ∧ W.cell? ⟨b8, 3, none⟩ = some (.slice Bt xl.length dt))) ∧ (W.cell? ⟨b9, 0, none⟩ = some (.slice AL2 nL2 cL2) ∧ W.cell? ⟨b9, 1, none⟩ = some (.slice AT2 nT2 cT2))) W from fun W hW hV => ⟨⟨⟨cell_obj (i := 0) hW rfl, cell_obj (i := 1) hW rfl⟩, ⟨cell_obj (i := 2) hW rfl, cell_obj (i := 3) hW rfl⟩⟩, ⟨cell_obj (i := 0) hV rfl, cell_obj (i := 1) hV rfl⟩⟩)
        have Hmine := Lib.hid (fun W (hW : Chg No wD W) => mine14_any (.slice Bt xl.length dt) xl W ((Hxt.out.keep cD).keepNo hW).no (by have := hlx.1; omega))
        have Hinst := Lib.hid (fun W vm (hW : Chg No wD W) (hm : Sl No W vm xl) => install_anyX (fun k => k < B ∨ k = b9) B p rows xt (.slice Bq xq.length dq) (.slice Bs xs.length ds) vm xq xs xl W (HregXD.out.keepNo hW) (fun _ h => .inl h) (fun k hk => by
          have h1 := HoffD.out.1
          have h2 := hW.size
          rcases hk with hk | hk
          · have := hb9B; omega
          · omega) Hri2.out.1 ((Hxq.out.keep cD).keepNo hW) ((Hxs.out.keep cD).keepNo hW) hm hcx hlx)
        rw [HR.out] at Hinst
        unfold cfgV at Hinst
        simp only at Hinst
        have cd := (Chg.refl No wD).drew
        refine rt_start (fun W => ((W.cell? ⟨b8, 0, none⟩ = some (.int .i64 xt) ∧ W.cell? ⟨b8, 1, none⟩ = some (.slice Bq xq.length dq)) ∧ (W.cell? ⟨b8, 2, none⟩ = some (.slice Bs xs.length ds) ∧ W.cell? ⟨b8, 3, none⟩ = some (.slice Bt xl.length dt))) ∧ (W.cell? ⟨b9, 0, none⟩ = some (.slice AL2 nL2 cL2) ∧ W.cell? ⟨b9, 1, none⟩ = some (.slice AT2 nT2 cT2))) (by kernel_rfl) ?_
        ((refine rt_yes (i := 0) (oi := { dst := some 65, op := .move (.tmp 7), type := 65, pos := "law.go:105", after := #[], guard := none }) (v := ?_) rfl (by kernel_rfl) (by kernel_rfl) (by kernel_rfl) (fun _ _ _ h => h) rfl ?_ ?_); rotate_left; focus (intro W hW; (try dsimp only at hW); go_split_ands; go_simp; (try (simp (disch := omega) only [IntWalk.i64_in]; (try go_simp))); (try (split; (next => omega); (try go_simp))); try rfl; done))
        try simp only [Act.put, List.setIfInBounds_toArray, List.set_cons_zero, List.set_cons_succ]
        ((refine rt_yes (i := 1) (oi := { dst := some 66, op := .fieldAddr 71 (.tmp 11) 0, type := 0, pos := "law.go:105", after := #[], guard := none }) (v := ?_) rfl (by kernel_rfl) (by kernel_rfl) (by kernel_rfl) (fun _ _ _ h => h) rfl ?_ ?_); rotate_left; focus (intro W hW; (try dsimp only at hW); go_split_ands; go_simp; (try (simp (disch := omega) only [IntWalk.i64_in]; (try go_simp))); (try (split; (next => omega); (try go_simp))); try rfl; done))
        try simp only [Act.put, List.setIfInBounds_toArray, List.set_cons_zero, List.set_cons_succ]
        ((refine rt_yes (i := 2) (oi := { dst := some 67, op := .load 63 (.tmp 66), type := 63, pos := "law.go:105", after := #[{ on := 1, ground := .data }], guard := none }) (v := ?_) rfl (by kernel_rfl) (by kernel_rfl) (by kernel_rfl) (fun _ _ _ h => h) rfl ?_ ?_); rotate_left; focus (intro W hW; (try dsimp only at hW); go_split_ands; go_simp; (try (simp (disch := omega) only [IntWalk.i64_in]; (try go_simp))); (try (split; (next => omega); (try go_simp))); try rfl; done))
        try simp only [Act.put, List.setIfInBounds_toArray, List.set_cons_zero, List.set_cons_succ]
        ((refine rt_yes (i := 3) (oi := { dst := some 68, op := .fieldAddr 71 (.tmp 11) 1, type := 0, pos := "law.go:105", after := #[], guard := none }) (v := ?_) rfl (by kernel_rfl) (by kernel_rfl) (by kernel_rfl) (fun _ _ _ h => h) rfl ?_ ?_); rotate_left; focus (intro W hW; (try dsimp only at hW); go_split_ands; go_simp; (try (simp (disch := omega) only [IntWalk.i64_in]; (try go_simp))); (try (split; (next => omega); (try go_simp))); try rfl; done))
        try simp only [Act.put, List.setIfInBounds_toArray, List.set_cons_zero, List.set_cons_succ]
        ((refine rt_yes (i := 4) (oi := { dst := some 69, op := .load 22 (.tmp 68), type := 22, pos := "law.go:105", after := #[{ on := 3, ground := .data }], guard := none }) (v := ?_) rfl (by kernel_rfl) (by kernel_rfl) (by kernel_rfl) (fun _ _ _ h => h) rfl ?_ ?_); rotate_left; focus (intro W hW; (try dsimp only at hW); go_split_ands; go_simp; (try (simp (disch := omega) only [IntWalk.i64_in]; (try go_simp))); (try (split; (next => omega); (try go_simp))); try rfl; done))
        try simp only [Act.put, List.setIfInBounds_toArray, List.set_cons_zero, List.set_cons_succ]
        ((refine rt_yes (i := 7) (oi := { dst := some 72, op := .move (.tmp 13), type := 54, pos := "law.go:105", after := #[], guard := none }) (v := ?_) rfl (by kernel_rfl) (by kernel_rfl) (by kernel_rfl) (fun _ _ _ h => h) rfl ?_ ?_); rotate_left; focus (intro W hW; (try dsimp only at hW); go_split_ands; go_simp; (try (simp (disch := omega) only [IntWalk.i64_in]; (try go_simp))); (try (split; (next => omega); (try go_simp))); try rfl; done))
        try simp only [Act.put, List.setIfInBounds_toArray, List.set_cons_zero, List.set_cons_succ]
        refine rt_k (fun W => ((W.cell? ⟨b8, 0, none⟩ = some (.int .i64 xt) ∧ W.cell? ⟨b8, 1, none⟩ = some (.slice Bq xq.length dq)) ∧ (W.cell? ⟨b8, 2, none⟩ = some (.slice Bs xs.length ds) ∧ W.cell? ⟨b8, 3, none⟩ = some (.slice Bt xl.length dt))) ∧ (W.cell? ⟨b9, 0, none⟩ = some (.slice AL2 nL2 cL2) ∧ W.cell? ⟨b9, 1, none⟩ = some (.slice AT2 nT2 cT2))) (i := 5) (oi := { dst := some 70, op := .call { callee := .value (.func 34), args := #[.tmp 69], argTypes := #[22] }, type := 28, pos := "law.go:105", after := #[{ on := 4, ground := .data }], guard := none }) (by kernel_rfl) (HS.out _ (cd.obj o8D (not_no _)) (cd.obj p9D (not_no _))) (fun _ h => h) rfl (by rfl) (fun K hK => ?_)
        go_simp
        refine (Hmine.out _ cd).mono ?_
        rintro e w6 ⟨vm, rfl, h6, sm⟩
        have cd6 := cd.trans h6
        refine hK _ _ ?_
        clear hK K
        try simp only [Act.put, List.setIfInBounds_toArray, List.set_cons_zero, List.set_cons_succ]
        refine rt_k (fun W => ((W.cell? ⟨b8, 0, none⟩ = some (.int .i64 xt) ∧ W.cell? ⟨b8, 1, none⟩ = some (.slice Bq xq.length dq)) ∧ (W.cell? ⟨b8, 2, none⟩ = some (.slice Bs xs.length ds) ∧ W.cell? ⟨b8, 3, none⟩ = some (.slice Bt xl.length dt))) ∧ (W.cell? ⟨b9, 0, none⟩ = some (.slice AL2 nL2 cL2) ∧ W.cell? ⟨b9, 1, none⟩ = some (.slice AT2 nT2 cT2))) (i := 6) (oi := { dst := some 71, op := .call { callee := .value (.func 33), args := #[.tmp 65, .tmp 67, .tmp 70], argTypes := #[65, 68, 28] }, type := 54, pos := "law.go:105", after := #[{ on := 0, ground := .data }, { on := 2, ground := .data }, { on := 5, ground := .data }, { on := 5, ground := .chain }], guard := none }) (by kernel_rfl) (HS.out _ (cd6.obj o8D (not_no _)) (cd6.obj p9D (not_no _))) (fun _ h => h) rfl (by rfl) (fun K hK => ?_)
        go_simp
        refine (Hinst.out _ _ cd6 sm).mono ?_
        rintro e w7 ⟨rfl, hin, hrX7⟩
        have hregSD := HregXD.out.toS (fun _ h => .inl h)
        have off9 := HoffD.out.no hregSD cd6
        have off8 := Hoff8.out.no hregSD cd6
        have o87 := off8.obj hin (cd6.obj o8D (not_no _))
        have p97 := off9.obj hin (cd6.obj p9D (not_no _))
        have off97 := off9.inst hin
        have hcv : ∀ {α : Type} [Rep α] (v : Value) (ys : List α), Sl (fun k => RegF wr p k ∨ k = b9) wD v ys → Sl (fun k => RegF w7 p k ∨ k = b9) w7 v ys := fun v ys hy => by
          have h1 : Sl (fun k => RegF w6 p k ∨ w6.heap.size ≤ k ∨ k = b9) w6 v ys := (hy.keepNo cd6).weak (fun b hb hg => by
            rcases hg with hg | hg | hg
            · exact .inl (HRF.out _ (regF_no hregSD cd6 hg))
            · omega
            · exact .inr hg)
          exact (h1.keep (hin.1.weak (fun k _ hk => .inl hk))).weak (fun b _ hb => by
            rcases hb with hb | hb
            · rcases hin.2 b hb with h | h
              · exact .inl h
              · exact .inr (.inl h)
            · exact .inr (.inr hb))
        have hqs7 : RefS (fun k => RegF w7 p k ∨ k = b9) w7 (.slice AL2 nL2 cL2) (.slice AT2 nT2 cT2) rows2 := ⟨hcv _ _ Hqs.out.l, hcv _ _ Hqs.out.t⟩
        have c7r : Chg (Ge B) w5 w7 := ((hcr.trans cD).trans cd6.of_no).trans (hin.ge (hregSD.keepNo cd6))
        have hrS7 := hrX7.toS (fun _ h => .inl h)
        have Hst := Lib.hid (stands_any B p (.slice AL2 nL2 cL2) (.slice AT2 nT2 cT2) rows2 w7 hrS7 hfir.out.1 hfle.out hqs7.no)
        have HFP := Lib.hid (show ∃ R, (∀ W, Chg No w7 W → Calls Try.prog 38 #[.pointer (some ⟨p, 0, none⟩), .int .i64 pos] W (FindOut R W)) ∧ (∀ W, Chg No w7 W → Calls Try.prog 42 #[regV (.slice AL2 nL2 cL2) (.slice AT2 nT2 cT2), .int .i64 pos] W (FindOut R W)) from by
          by_cases hp0 : pos < 0
          · exact ⟨none, fun W hW => rfind_neg B p rows2 W (hrS7.keepNo hW) hfir.out.1.1 pos hp0, fun W hW => (dplace_no _ _ rows2 pos W (hqs7.no.keepNo hW) hp0).mono (fun e w' h => h)⟩
          · exact ⟨findF rows2 pos, fun W hW => rfind_any B p rows2 W (hrS7.keepNo hW) hfir.out.1.1 pos (by omega), fun W hW => dplace_any _ _ rows2 pos W (hqs7.no.keepNo hW) hfir.out.1 (by omega) hpos⟩)
        have HrX7 := Lib.hid (fun W (hW : Chg No w7 W) => hrX7.keepNo hW)
        have Hqs7 := Lib.hid (fun W (hW : Chg No w7 W) => hcvN hrS7 hqs7 hW)
        have Hoff97 := Lib.hid (fun W (hW : Chg No w7 W) => off97.no hrS7 hW)
        unfold regV at Hst
        clear hcv hqs7 hrX7 hrS7 off97 off9 off8 hin sm hregSD
        refine hK _ _ ?_
        clear hK K
        try simp only [Act.put, List.setIfInBounds_toArray, List.set_cons_zero, List.set_cons_succ]
        ((refine rt_yes (i := 8) (oi := { dst := some 73, op := .binOp .neq 54 (.tmp 71) (.tmp 72) 54, type := 4, pos := "law.go:105", after := #[{ on := 6, ground := .data }, { on := 7, ground := .data }], guard := none }) (v := ?_) rfl (by kernel_rfl) (by kernel_rfl) (by kernel_rfl) (fun _ _ _ h => h) rfl ?_ ?_); rotate_left; focus (intro W hW; (try dsimp only at hW); go_split_ands; go_simp; (try (simp (disch := omega) only [IntWalk.i64_in]; (try go_simp))); (try (split; (next => omega); (try go_simp))); try rfl; done))
        try simp only [Act.put, List.setIfInBounds_toArray, List.set_cons_zero, List.set_cons_succ]
        ((refine rt_yes (i := 9) (oi := { dst := some 74, op := .move (.tmp 73), type := 4, pos := "law.go:105", after := #[{ on := 8, ground := .data }, { on := 6, ground := .chain }], guard := none }) (v := ?_) rfl (by kernel_rfl) (by kernel_rfl) (by kernel_rfl) (fun _ _ _ h => h) rfl ?_ ?_); rotate_left; focus (intro W hW; (try dsimp only at hW); go_split_ands; go_simp; (try (simp (disch := omega) only [IntWalk.i64_in]; (try go_simp))); (try (split; (next => omega); (try go_simp))); try rfl; done))
        try simp only [Act.put, List.setIfInBounds_toArray, List.set_cons_zero, List.set_cons_succ]
        first | (refine rt_no (i := 10) (oi := { dst := some 75, op := .move (.tmp 7), type := 65, pos := "law.go:105", after := #[{ on := 9, ground := .guard }], guard := some (9, false) }) rfl (by kernel_rfl) (by kernel_rfl) (by kernel_rfl) (fun _ _ _ h => h) rfl ?_) | ((refine rt_yes (i := 10) (oi := { dst := some 75, op := .move (.tmp 7), type := 65, pos := "law.go:105", after := #[{ on := 9, ground := .guard }], guard := some (9, false) }) (v := ?_) rfl (by kernel_rfl) (by kernel_rfl) (by kernel_rfl) (fun _ _ _ h => h) rfl ?_ ?_); rotate_left; focus (intro W hW; (try dsimp only at hW); go_split_ands; go_simp; (try (simp (disch := omega) only [IntWalk.i64_in]; (try go_simp))); (try (split; (next => omega); (try go_simp))); try rfl; done))
        try simp only [Act.put, List.setIfInBounds_toArray, List.set_cons_zero, List.set_cons_succ]
        first | (refine rt_no (i := 11) (oi := { dst := some 76, op := .load 82 (.tmp 9), type := 82, pos := "law.go:105", after := #[{ on := 9, ground := .guard }], guard := some (9, false) }) rfl (by kernel_rfl) (by kernel_rfl) (by kernel_rfl) (fun _ _ _ h => h) rfl ?_) | ((refine rt_yes (i := 11) (oi := { dst := some 76, op := .load 82 (.tmp 9), type := 82, pos := "law.go:105", after := #[{ on := 9, ground := .guard }], guard := some (9, false) }) (v := ?_) rfl (by kernel_rfl) (by kernel_rfl) (by kernel_rfl) (fun _ _ _ h => h) rfl ?_ ?_); rotate_left; focus (intro W hW; (try dsimp only at hW); go_split_ands; go_simp; (try (simp (disch := omega) only [IntWalk.i64_in]; (try go_simp))); (try (split; (next => omega); (try go_simp))); try rfl; done))
        try simp only [Act.put, List.setIfInBounds_toArray, List.set_cons_zero, List.set_cons_succ]
        refine rt_k (fun W => ((W.cell? ⟨b8, 0, none⟩ = some (.int .i64 xt) ∧ W.cell? ⟨b8, 1, none⟩ = some (.slice Bq xq.length dq)) ∧ (W.cell? ⟨b8, 2, none⟩ = some (.slice Bs xs.length ds) ∧ W.cell? ⟨b8, 3, none⟩ = some (.slice Bt xl.length dt))) ∧ (W.cell? ⟨b9, 0, none⟩ = some (.slice AL2 nL2 cL2) ∧ W.cell? ⟨b9, 1, none⟩ = some (.slice AT2 nT2 cT2))) (i := 12) (oi := { dst := some 77, op := .call { callee := .value (.func 41), args := #[.tmp 75, .tmp 76], argTypes := #[65, 82] }, type := 4, pos := "law.go:105", after := #[{ on := 10, ground := .data }, { on := 11, ground := .data }, { on := 9, ground := .chain }, { on := 9, ground := .guard }], guard := some (9, false) }) (by kernel_rfl) (HS.out _ o87 p97) (fun _ h => h) rfl (by rfl) (fun K hK => ?_)
        go_simp
        refine Hst.out.mono ?_
        rintro e w8 ⟨rfl, h8⟩
        refine hK _ _ ?_
        clear hK K
        try simp only [Act.put, List.setIfInBounds_toArray, List.set_cons_zero, List.set_cons_succ]
        first | (refine rt_no (i := 13) (oi := { dst := some 78, op := .unOp .not 4 (.tmp 77), type := 4, pos := "law.go:105", after := #[{ on := 12, ground := .data }, { on := 9, ground := .guard }], guard := some (9, false) }) rfl (by kernel_rfl) (by kernel_rfl) (by kernel_rfl) (fun _ _ _ h => h) rfl ?_) | ((refine rt_yes (i := 13) (oi := { dst := some 78, op := .unOp .not 4 (.tmp 77), type := 4, pos := "law.go:105", after := #[{ on := 12, ground := .data }, { on := 9, ground := .guard }], guard := some (9, false) }) (v := ?_) rfl (by kernel_rfl) (by kernel_rfl) (by kernel_rfl) (fun _ _ _ h => h) rfl ?_ ?_); rotate_left; focus (intro W hW; (try dsimp only at hW); go_split_ands; go_simp; (try (simp (disch := omega) only [IntWalk.i64_in]; (try go_simp))); (try (split; (next => omega); (try go_simp))); try rfl; done))
        try simp only [Act.put, List.setIfInBounds_toArray, List.set_cons_zero, List.set_cons_succ]
        refine rt_k (fun W => ((W.cell? ⟨b8, 0, none⟩ = some (.int .i64 xt) ∧ W.cell? ⟨b8, 1, none⟩ = some (.slice Bq xq.length dq)) ∧ (W.cell? ⟨b8, 2, none⟩ = some (.slice Bs xs.length ds) ∧ W.cell? ⟨b8, 3, none⟩ = some (.slice Bt xl.length dt))) ∧ (W.cell? ⟨b9, 0, none⟩ = some (.slice AL2 nL2 cL2) ∧ W.cell? ⟨b9, 1, none⟩ = some (.slice AT2 nT2 cT2))) (i := 14) (oi := { dst := some 79, op := .pick (.tmp 74) (.const (.bool true)) (.tmp 78), type := 4, pos := "law.go:105", after := #[{ on := 9, ground := .data }, { on := 13, ground := .data }], guard := none }) (by kernel_rfl) (HS.out _ (h8.obj o87 (not_no _)) (h8.obj p97 (not_no _))) (fun _ h => h) rfl (by rfl) (fun K hK => ?_)
        go_simp
        refine hK _ _ ?_
        clear hK K
        try simp only [Act.put, List.setIfInBounds_toArray, List.set_cons_zero, List.set_cons_succ]
        refine rt_done (by kernel_rfl)  ?_
        obtain ⟨R, HF, HP⟩ := HFP.out
        have HF' := Lib.hid (HF w8 h8)
        have HP' := Lib.hid HP
        unfold regV at HP'
        clear HF HP HFP Hst
        go_wp2_with (with_reducible first | refine stop_append ?_ | refine stop_copy ?_ | refine stop_make ?_ | refine stop_lookup ?_ | refine stop_update ?_ | refine stop_slice ?_ | refine stop_range ?_ | refine stop_next ?_ | refine stop_convert ⟨_, rfl⟩ ?_ | refine stop_convertB ⟨_, _, _, rfl⟩ ?_ | refine stop_eqSlice ⟨_, _, rfl⟩ ?_)
        refine HF'.out.mono ?_
        rintro e w9 ⟨he, h9⟩
        rcases R with _ | ⟨r1, r2⟩
        focus
          obtain rfl := he
          have hcA := (Chg.refl No w9).alloc (.cells #[.int .i64 0, .int .i64 0] 50)
          have oA := alloc_obj w9 (.cells #[.int .i64 0, .int .i64 0] 50)
          have c79 := h8.trans (h9.trans hcA)
          have p9E := c79.obj p97 (not_no _)
          have z0 := cell_obj (i := 0) p9E rfl
          have z1 := cell_obj (i := 1) p9E rfl
          clear hcA
          go_wp2_with (with_reducible first | refine stop_append ?_ | refine stop_copy ?_ | refine stop_make ?_ | refine stop_lookup ?_ | refine stop_update ?_ | refine stop_slice ?_ | refine stop_range ?_ | refine stop_next ?_ | refine stop_convert ⟨_, rfl⟩ ?_ | refine stop_convertB ⟨_, _, _, rfl⟩ ?_ | refine stop_eqSlice ⟨_, _, rfl⟩ ?_)
          generalize w9.alloc (.cells #[.int .i64 0, .int .i64 0] 50) = wE at *
          generalize w9.heap.size = bA at *
          refine (HP'.out _ c79).mono ?_
          rintro e w10 ⟨he2, h10⟩
          obtain rfl := he2
          have hcB2 := (Chg.refl No w10).alloc (.cells #[.int .i64 0, .int .i64 0] 50)
          have oB := alloc_obj w10 (.cells #[.int .i64 0, .int .i64 0] 50)
          have oA2 := (h10.trans hcB2).obj oA (not_no _)
          have x0 := cell_obj (i := 0) oA2 rfl
          have x1 := cell_obj (i := 1) oA2 rfl
          have y0 := cell_obj (i := 0) oB rfl
          have y1 := cell_obj (i := 1) oB rfl
          have c7F := c79.trans (h10.trans hcB2)
          have p9F := c7F.obj p97 (not_no _)
          have cF := c7r.trans c7F.of_no
          have G1 := Lib.hid (HrX7.out _ c7F)
          have G2 := Lib.hid (Hqs7.out _ c7F)
          have G3 := Lib.hid (Hoff97.out _ c7F)
          clear hcB2 oA oA2 oB z0 z1
          go_wp2_with (with_reducible first | refine stop_append ?_ | refine stop_copy ?_ | refine stop_make ?_ | refine stop_lookup ?_ | refine stop_update ?_ | refine stop_slice ?_ | refine stop_range ?_ | refine stop_next ?_ | refine stop_convert ⟨_, rfl⟩ ?_ | refine stop_convertB ⟨_, _, _, rfl⟩ ?_ | refine stop_eqSlice ⟨_, _, rfl⟩ ?_)
          go_roundw
          case rel => exact ⟨k + 1, rows2, _, _, by omega, by go_num, cF, G1.out, hfir.out.1, hfle.out, G2.out, p9F, G3.out⟩
          case measure => simp [intOf]; omega
        focus
          obtain rfl := he
          have hcA := (Chg.refl No w9).alloc (.cells #[.int .i64 r1, .int .i64 r2] 50)
          have oA := alloc_obj w9 (.cells #[.int .i64 r1, .int .i64 r2] 50)
          have c79 := h8.trans (h9.trans hcA)
          have p9E := c79.obj p97 (not_no _)
          have z0 := cell_obj (i := 0) p9E rfl
          have z1 := cell_obj (i := 1) p9E rfl
          clear hcA
          go_wp2_with (with_reducible first | refine stop_append ?_ | refine stop_copy ?_ | refine stop_make ?_ | refine stop_lookup ?_ | refine stop_update ?_ | refine stop_slice ?_ | refine stop_range ?_ | refine stop_next ?_ | refine stop_convert ⟨_, rfl⟩ ?_ | refine stop_convertB ⟨_, _, _, rfl⟩ ?_ | refine stop_eqSlice ⟨_, _, rfl⟩ ?_)
          generalize w9.alloc (.cells #[.int .i64 r1, .int .i64 r2] 50) = wE at *
          generalize w9.heap.size = bA at *
          refine (HP'.out _ c79).mono ?_
          rintro e w10 ⟨he2, h10⟩
          obtain rfl := he2
          have hcB2 := (Chg.refl No w10).alloc (.cells #[.int .i64 r1, .int .i64 r2] 50)
          have oB := alloc_obj w10 (.cells #[.int .i64 r1, .int .i64 r2] 50)
          have oA2 := (h10.trans hcB2).obj oA (not_no _)
          have x0 := cell_obj (i := 0) oA2 rfl
          have x1 := cell_obj (i := 1) oA2 rfl
          have y0 := cell_obj (i := 0) oB rfl
          have y1 := cell_obj (i := 1) oB rfl
          have c7F := c79.trans (h10.trans hcB2)
          have p9F := c7F.obj p97 (not_no _)
          have cF := c7r.trans c7F.of_no
          have G1 := Lib.hid (HrX7.out _ c7F)
          have G2 := Lib.hid (Hqs7.out _ c7F)
          have G3 := Lib.hid (Hoff97.out _ c7F)
          clear hcB2 oA oA2 oB z0 z1
          go_wp2_with (with_reducible first | refine stop_append ?_ | refine stop_copy ?_ | refine stop_make ?_ | refine stop_lookup ?_ | refine stop_update ?_ | refine stop_slice ?_ | refine stop_range ?_ | refine stop_next ?_ | refine stop_convert ⟨_, rfl⟩ ?_ | refine stop_convertB ⟨_, _, _, rfl⟩ ?_ | refine stop_eqSlice ⟨_, _, rfl⟩ ?_)
          go_roundw
          case rel => exact ⟨k + 1, rows2, _, _, by omega, by go_num, cF, G1.out, hfir.out.1, hfle.out, G2.out, p9F, G3.out⟩
          case measure => simp [intOf]; omega
      · obtain rfl : k = l.length := by omega
        go_wp2_with (with_reducible first | refine stop_append ?_ | refine stop_copy ?_ | refine stop_make ?_ | refine stop_lookup ?_ | refine stop_update ?_ | refine stop_slice ?_ | refine stop_range ?_ | refine stop_next ?_ | refine stop_convert ⟨_, rfl⟩ ?_ | refine stop_convertB ⟨_, _, _, rfl⟩ ?_ | refine stop_eqSlice ⟨_, _, rfl⟩ ?_)
        refine (Hal.out _).mono ?_
        rintro e w6 ⟨rfl, hc6⟩
        go_wp2_with (with_reducible first | refine stop_append ?_ | refine stop_copy ?_ | refine stop_make ?_ | refine stop_lookup ?_ | refine stop_update ?_ | refine stop_slice ?_ | refine stop_range ?_ | refine stop_next ?_ | refine stop_convert ⟨_, rfl⟩ ?_ | refine stop_convertB ⟨_, _, _, rfl⟩ ?_ | refine stop_eqSlice ⟨_, _, rfl⟩ ?_)
        go_ret
        exact ⟨rfl, (c5.old hcr (fun i hi => by simp only [Ge] at hi; omega)).trans hc6⟩
end Go.Proofs.Ytbjpoamnglfjeaa


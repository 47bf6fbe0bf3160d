/- The statement OrderFinds, walked. -/
import Derived.Test.YtbjpoamnglfjeaaOrdJ
set_option linter.unusedVariables false
set_option linter.unusedSimpArgs false
namespace Go.Proofs.Ytbjpoamnglfjeaa
open Go.RowKit Cb

def idxF (R : List (Int × Int)) (x : Int × Int) : Option Int := (R.findIdx? (· == x)).map (fun (i : Nat) => (i : Int))
theorem idx_findF {sh : Nat} {o : OSt} (hI : Cb.Inv sh o) (x : Int × Int) : idxF (rowF o) x = findF o.runs x := by
  rw [find_idx hI.contig]; unfold idxF rowF; congr; funext i; omega
theorem row_mem {sh : Nat} {o : OSt} (hI : Cb.Inv sh o) {q : Int × Int} (h : q ∈ rowF o) : 0 ≤ q.2 ∧ q.2 ≤ 1099511627776 := by
  simp only [rowF, List.mem_flatMap, expand, List.mem_map, List.mem_range] at h
  obtain ⟨r, hr, i, hi, rfl⟩ := h
  have := hI.loc r hr
  simp only
  omega
set_option maxRecDepth 100000 in
set_option maxHeartbeats 4000000 in
theorem rfind_any (sh : Nat) (h1 : 1 ≤ sh) (h8 : sh ≤ 8) (v : Value) (l : List Ent) (R : List (Int × Int)) (hR : RRow sh l R) (s p : Int) (w : World) (hs : Sl No w v l) (hl : l.length * 64 ≤ 140737488355328) :
    Calls Try.prog 19 #[.agg #[.int .i64 sh, v], .agg #[.int .i64 s, .int .i64 p]] w (OptPost (idxF R (s, p)) w) := by
  obtain ⟨A, c, rfl⟩ := hs.slice
  have hc0 := ((Chg.refl No w).alloc (.cells #[.int .i64 sh, .slice A l.length c] 33)).alloc (.cells #[.int .i64 s, .int .i64 p] 24)
  have o2 : ((w.alloc (.cells #[.int .i64 sh, .slice A l.length c] 33)).alloc (.cells #[.int .i64 s, .int .i64 p] 24)).heap[w.heap.size]? = some (.cells #[.int .i64 sh, .slice A l.length c] 33 (0, 0)) := ((Chg.refl No _).alloc _).obj (alloc_obj w _) (not_no _)
  have o3 : ((w.alloc (.cells #[.int .i64 sh, .slice A l.length c] 33)).alloc (.cells #[.int .i64 s, .int .i64 p] 24)).heap[w.heap.size + 1]? = some (.cells #[.int .i64 s, .int .i64 p] 24 (0, 0)) := by
    have := alloc_obj (w.alloc (.cells #[.int .i64 sh, .slice A l.length c] 33)) (.cells #[.int .i64 s, .int .i64 p] 24)
    rw [World.size_alloc] at this
    exact this
  have Hrow := Lib.hid (rrow_any sh h1 h8 (.slice A l.length c) l R hR _ (hs.keepNo hc0) hl)
  have hRl := hR.len
  clear hs hR
  go_enter Try.func19, Try.ntmps19
  go_wp2_with (first | (with_reducible refine stop_append ?_) | (with_reducible refine stop_copy ?_) | (with_reducible refine stop_make ?_) | (with_reducible refine stop_lookup ?_) | (with_reducible refine stop_update ?_) | (with_reducible refine stop_slice ?_) | (with_reducible refine stop_range ?_) | (with_reducible refine stop_next ?_) | (with_reducible refine stop_convert ⟨_, rfl⟩ ?_) | (with_reducible refine stop_convertB ⟨_, _, _, rfl⟩ ?_) | (with_reducible refine stop_eqSlice ⟨_, _, rfl⟩ ?_))
  generalize (w.alloc (.cells #[.int .i64 sh, .slice A l.length c] 33)).alloc (.cells #[.int .i64 s, .int .i64 p] 24) = w0 at *
  generalize hq3 : w.heap.size + 1 = q3 at *
  generalize w.heap.size = q2 at *
  refine Hrow.out.mono ?_
  rintro e w1 ⟨v1, rfl, hc1, hs1⟩
  have z0 : w1.cell? ⟨q3, 0, none⟩ = some (.int .i64 s) := hc1.cell (cell_obj (i := 0) o3 rfl) (not_no _)
  have z1 : w1.cell? ⟨q3, 1, none⟩ = some (.int .i64 p) := hc1.cell (cell_obj (i := 1) o3 rfl) (not_no _)
  have Hz0 := Lib.hid (fun W (hW : Chg No w1 W) => hW.cell z0 (not_no _))
  have Hz1 := Lib.hid (fun W (hW : Chg No w1 W) => hW.cell z1 (not_no _))
  have Hs1 := Lib.hid hs1.no
  obtain ⟨A1, c1, rfl⟩ := hs1.slice
  clear hs1 z0 z1 o2 o3 Hrow
  have hcw := hc0.trans hc1
  go_wp2_with (first | (with_reducible refine stop_append ?_) | (with_reducible refine stop_copy ?_) | (with_reducible refine stop_make ?_) | (with_reducible refine stop_lookup ?_) | (with_reducible refine stop_update ?_) | (with_reducible refine stop_slice ?_) | (with_reducible refine stop_range ?_) | (with_reducible refine stop_next ?_) | (with_reducible refine stop_convert ⟨_, rfl⟩ ?_) | (with_reducible refine stop_convertB ⟨_, _, _, rfl⟩ ?_) | (with_reducible refine stop_eqSlice ⟨_, _, rfl⟩ ?_))
  go_loopw [7] (fun v7 wr => ∃ k : Nat, k ≤ R.length ∧ v7 = .int .i64 k ∧ Chg No w1 wr ∧ ∀ j (h : j < R.length), j < k → R[j] ≠ (s, p)) (fun v7 _ => R.length - (intOf v7).toNat)
  case atStart => exact ⟨0, by omega, rfl, Chg.refl _ _, fun _ _ h => by omega⟩
  case round =>
    obtain ⟨k, hk, rfl, hc, hno⟩ := hrel
    have Hno := Lib.hid hno
    clear hno
    by_cases hlt : k < R.length
    · obtain ⟨b, o, dd, rfl, _, hbl, ⟨_, _, rfl, rfl, rfl⟩, ha⟩ := (Hs1.out.keepNo hc).get k hlt
      have ha0 := ha 0 _ rfl
      have ha1 := ha 1 _ rfl
      simp only [show Rep.n (Int × Int) = 2 from rfl, Nat.add_zero] at ha0 ha1
      have z0 := Hz0.out wr hc
      have z1 := Hz1.out wr hc
      have Hyes := Lib.hid (show R[k] = (s, p) → idxF R (s, p) = some (k : Int) from fun he => by
        unfold idxF
        rw [List.findIdx?_eq_some_iff_getElem.2 ⟨hlt, by simpa using he, fun j hj => by simpa using Hno.out j (by omega) hj⟩]; rfl)
      have Hsn := Lib.hid (show R[k] ≠ (s, p) → ∀ j (h : j < R.length), j < k + 1 → R[j] ≠ (s, p) from fun he j hj hjk => by
        rcases Nat.lt_or_ge j k with h | h
        · exact Hno.out j hj h
        · obtain rfl : j = k := by omega
          exact he)
      clear ha
      generalize R[k] = x at ha0 ha1 Hyes Hsn
      obtain ⟨x1, x2⟩ := x
      simp only at ha0 ha1
      have hcase : (x1 = s ∧ x2 = p) ∨ ((x1 == s) = false ∧ (x1, x2) ≠ (s, p)) ∨ (x1 = s ∧ (x2 == p) = false ∧ (x1, x2) ≠ (s, p)) := by
        by_cases e1 : x1 = s
        · by_cases e2 : x2 = p
          · exact .inl ⟨e1, e2⟩
          · exact .inr (.inr ⟨e1, by simpa using e2, by simp [e2]⟩)
        · exact .inr (.inl ⟨by simpa using e1, by simp [e1]⟩)
      rcases hcase with ⟨rfl, rfl⟩ | ⟨hq1, hq3'⟩ | ⟨rfl, hq1, hq3'⟩
      · have Hr := Lib.hid (Hyes.out rfl)
        go_wp2_with (first | (with_reducible refine stop_append ?_) | (with_reducible refine stop_copy ?_) | (with_reducible refine stop_make ?_) | (with_reducible refine stop_lookup ?_) | (with_reducible refine stop_update ?_) | (with_reducible refine stop_slice ?_) | (with_reducible refine stop_range ?_) | (with_reducible refine stop_next ?_) | (with_reducible refine stop_convert ⟨_, rfl⟩ ?_) | (with_reducible refine stop_convertB ⟨_, _, _, rfl⟩ ?_) | (with_reducible refine stop_eqSlice ⟨_, _, rfl⟩ ?_))
        refine reg_start (fun W => W.cell? ⟨b, o + k * 2, none⟩ = some (.int .i64 x1) ∧ W.cell? ⟨b, o + k * 2 + 1, none⟩ = some (.int .i64 x2) ∧ W.cell? ⟨q3, 0, none⟩ = some (.int .i64 x1) ∧ W.cell? ⟨q3, 1, none⟩ = some (.int .i64 x2)) (by kernel_rfl) ?_
        ((refine reg_yes (i := 0) (oi := { dst := some 19, op := Go.Op.move (Go.Operand.tmp 6), type := 42, pos := "ref.go:60", after := #[], guard := none }) (v := ?_) rfl (by kernel_rfl) (by kernel_rfl) (by kernel_rfl) (fun _ _ _ h => h) rfl ?_ ?_); rotate_left; focus (intro W hW; (try dsimp only at hW); go_split_ands; go_simp; (try (simp (disch := omega) only [IntWalk.i64_in]; (try go_simp))); (try (split; (next => omega); (try go_simp))); try rfl; done))
        try simp only [Act.put, List.setIfInBounds_toArray, List.set_cons_zero, List.set_cons_succ]
        ((refine reg_yes (i := 1) (oi := { dst := some 20, op := Go.Op.move (Go.Operand.tmp 7), type := 3, pos := "ref.go:60", after := #[], guard := none }) (v := ?_) rfl (by kernel_rfl) (by kernel_rfl) (by kernel_rfl) (fun _ _ _ h => h) rfl ?_ ?_); rotate_left; focus (intro W hW; (try dsimp only at hW); go_split_ands; go_simp; (try (simp (disch := omega) only [IntWalk.i64_in]; (try go_simp))); (try (split; (next => omega); (try go_simp))); try rfl; done))
        try simp only [Act.put, List.setIfInBounds_toArray, List.set_cons_zero, List.set_cons_succ]
        ((refine reg_yes (i := 2) (oi := { dst := some 21, op := Go.Op.indexAddr 42 (Go.Operand.tmp 19) (Go.Operand.tmp 20), type := 0, pos := "ref.go:60", after := #[{ on := 0, ground := Go.Ground.data }, { on := 1, ground := Go.Ground.data }], guard := none }) (v := ?_) rfl (by kernel_rfl) (by kernel_rfl) (by kernel_rfl) (fun _ _ _ h => h) rfl ?_ ?_); rotate_left; focus (intro W hW; (try dsimp only at hW); go_split_ands; go_simp; (try (simp (disch := omega) only [IntWalk.i64_in]; (try go_simp))); (try (split; (next => omega); (try go_simp))); try rfl; done))
        try simp only [Act.put, List.setIfInBounds_toArray, List.set_cons_zero, List.set_cons_succ]
        ((refine reg_yes (i := 3) (oi := { dst := some 22, op := Go.Op.load 24 (Go.Operand.tmp 21), type := 24, pos := "ref.go:60", after := #[{ on := 2, ground := Go.Ground.data }], guard := none }) (v := ?_) rfl (by kernel_rfl) (by kernel_rfl) (by kernel_rfl) (fun _ _ _ h => h) rfl ?_ ?_); rotate_left; focus (intro W hW; (try dsimp only at hW); go_split_ands; go_simp; (try (simp (disch := omega) only [IntWalk.i64_in]; (try go_simp))); (try (split; (next => omega); (try go_simp))); try rfl; done))
        try simp only [Act.put, List.setIfInBounds_toArray, List.set_cons_zero, List.set_cons_succ]
        ((refine reg_yes (i := 4) (oi := { dst := some 23, op := Go.Op.load 24 (Go.Operand.tmp 3), type := 24, pos := "ref.go:60", after := #[], guard := none }) (v := ?_) rfl (by kernel_rfl) (by kernel_rfl) (by kernel_rfl) (fun _ _ _ h => h) rfl ?_ ?_); rotate_left; focus (intro W hW; (try dsimp only at hW); go_split_ands; go_simp; (try (simp (disch := omega) only [IntWalk.i64_in]; (try go_simp))); (try (split; (next => omega); (try go_simp))); try rfl; done))
        try simp only [Act.put, List.setIfInBounds_toArray, List.set_cons_zero, List.set_cons_succ]
        ((refine reg_yes (i := 5) (oi := { dst := some 24, op := Go.Op.binOp Go.BinOp.eql 24 (Go.Operand.tmp 22) (Go.Operand.tmp 23) 24, type := 4, pos := "ref.go:60", after := #[{ on := 3, ground := Go.Ground.data }, { on := 4, ground := Go.Ground.data }], guard := none }) (v := ?_) rfl (by kernel_rfl) (by kernel_rfl) (by kernel_rfl) (fun _ _ _ h => h) rfl ?_ ?_); rotate_left; focus (intro W hW; (try dsimp only at hW); go_split_ands; go_simp; (try (simp (disch := omega) only [IntWalk.i64_in]; (try go_simp))); (try (split; (next => omega); (try go_simp))); try rfl; done))
        try simp only [Act.put, List.setIfInBounds_toArray, List.set_cons_zero, List.set_cons_succ]
        -- ready: []
        refine reg_done (by kernel_rfl) (show (fun W => W.cell? ⟨b, o + k * 2, none⟩ = some (.int .i64 x1) ∧ W.cell? ⟨b, o + k * 2 + 1, none⟩ = some (.int .i64 x2) ∧ W.cell? ⟨q3, 0, none⟩ = some (.int .i64 x1) ∧ W.cell? ⟨q3, 1, none⟩ = some (.int .i64 x2)) wr.drew from ⟨ha0, ha1, z0, z1⟩) ?_
        have hcd := hcw.trans hc.drew
        go_wp2_with (first | (with_reducible refine stop_append ?_) | (with_reducible refine stop_copy ?_) | (with_reducible refine stop_make ?_) | (with_reducible refine stop_lookup ?_) | (with_reducible refine stop_update ?_) | (with_reducible refine stop_slice ?_) | (with_reducible refine stop_range ?_) | (with_reducible refine stop_next ?_) | (with_reducible refine stop_convert ⟨_, rfl⟩ ?_) | (with_reducible refine stop_convertB ⟨_, _, _, rfl⟩ ?_) | (with_reducible refine stop_eqSlice ⟨_, _, rfl⟩ ?_))
        go_ret2
        rw [Hr.out]
        exact ⟨hcd, .inl ⟨_, rfl, rfl⟩⟩
      · have Hr := Lib.hid (Hsn.out hq3')
        clear hq3'
        go_wp2_with (first | (with_reducible refine stop_append ?_) | (with_reducible refine stop_copy ?_) | (with_reducible refine stop_make ?_) | (with_reducible refine stop_lookup ?_) | (with_reducible refine stop_update ?_) | (with_reducible refine stop_slice ?_) | (with_reducible refine stop_range ?_) | (with_reducible refine stop_next ?_) | (with_reducible refine stop_convert ⟨_, rfl⟩ ?_) | (with_reducible refine stop_convertB ⟨_, _, _, rfl⟩ ?_) | (with_reducible refine stop_eqSlice ⟨_, _, rfl⟩ ?_))
        refine reg_start (fun W => W.cell? ⟨b, o + k * 2, none⟩ = some (.int .i64 x1) ∧ W.cell? ⟨b, o + k * 2 + 1, none⟩ = some (.int .i64 x2) ∧ W.cell? ⟨q3, 0, none⟩ = some (.int .i64 s) ∧ W.cell? ⟨q3, 1, none⟩ = some (.int .i64 p)) (by kernel_rfl) ?_
        ((refine reg_yes (i := 0) (oi := { dst := some 19, op := Go.Op.move (Go.Operand.tmp 6), type := 42, pos := "ref.go:60", after := #[], guard := none }) (v := ?_) rfl (by kernel_rfl) (by kernel_rfl) (by kernel_rfl) (fun _ _ _ h => h) rfl ?_ ?_); rotate_left; focus (intro W hW; (try dsimp only at hW); go_split_ands; go_simp; (try (simp (disch := omega) only [IntWalk.i64_in]; (try go_simp))); (try (split; (next => omega); (try go_simp))); try rfl; done))
        try simp only [Act.put, List.setIfInBounds_toArray, List.set_cons_zero, List.set_cons_succ]
        ((refine reg_yes (i := 1) (oi := { dst := some 20, op := Go.Op.move (Go.Operand.tmp 7), type := 3, pos := "ref.go:60", after := #[], guard := none }) (v := ?_) rfl (by kernel_rfl) (by kernel_rfl) (by kernel_rfl) (fun _ _ _ h => h) rfl ?_ ?_); rotate_left; focus (intro W hW; (try dsimp only at hW); go_split_ands; go_simp; (try (simp (disch := omega) only [IntWalk.i64_in]; (try go_simp))); (try (split; (next => omega); (try go_simp))); try rfl; done))
        try simp only [Act.put, List.setIfInBounds_toArray, List.set_cons_zero, List.set_cons_succ]
        ((refine reg_yes (i := 2) (oi := { dst := some 21, op := Go.Op.indexAddr 42 (Go.Operand.tmp 19) (Go.Operand.tmp 20), type := 0, pos := "ref.go:60", after := #[{ on := 0, ground := Go.Ground.data }, { on := 1, ground := Go.Ground.data }], guard := none }) (v := ?_) rfl (by kernel_rfl) (by kernel_rfl) (by kernel_rfl) (fun _ _ _ h => h) rfl ?_ ?_); rotate_left; focus (intro W hW; (try dsimp only at hW); go_split_ands; go_simp; (try (simp (disch := omega) only [IntWalk.i64_in]; (try go_simp))); (try (split; (next => omega); (try go_simp))); try rfl; done))
        try simp only [Act.put, List.setIfInBounds_toArray, List.set_cons_zero, List.set_cons_succ]
        ((refine reg_yes (i := 3) (oi := { dst := some 22, op := Go.Op.load 24 (Go.Operand.tmp 21), type := 24, pos := "ref.go:60", after := #[{ on := 2, ground := Go.Ground.data }], guard := none }) (v := ?_) rfl (by kernel_rfl) (by kernel_rfl) (by kernel_rfl) (fun _ _ _ h => h) rfl ?_ ?_); rotate_left; focus (intro W hW; (try dsimp only at hW); go_split_ands; go_simp; (try (simp (disch := omega) only [IntWalk.i64_in]; (try go_simp))); (try (split; (next => omega); (try go_simp))); try rfl; done))
        try simp only [Act.put, List.setIfInBounds_toArray, List.set_cons_zero, List.set_cons_succ]
        ((refine reg_yes (i := 4) (oi := { dst := some 23, op := Go.Op.load 24 (Go.Operand.tmp 3), type := 24, pos := "ref.go:60", after := #[], guard := none }) (v := ?_) rfl (by kernel_rfl) (by kernel_rfl) (by kernel_rfl) (fun _ _ _ h => h) rfl ?_ ?_); rotate_left; focus (intro W hW; (try dsimp only at hW); go_split_ands; go_simp; (try (simp (disch := omega) only [IntWalk.i64_in]; (try go_simp))); (try (split; (next => omega); (try go_simp))); try rfl; done))
        try simp only [Act.put, List.setIfInBounds_toArray, List.set_cons_zero, List.set_cons_succ]
        ((refine reg_yes (i := 5) (oi := { dst := some 24, op := Go.Op.binOp Go.BinOp.eql 24 (Go.Operand.tmp 22) (Go.Operand.tmp 23) 24, type := 4, pos := "ref.go:60", after := #[{ on := 3, ground := Go.Ground.data }, { on := 4, ground := Go.Ground.data }], guard := none }) (v := ?_) rfl (by kernel_rfl) (by kernel_rfl) (by kernel_rfl) (fun _ _ _ h => h) rfl ?_ ?_); rotate_left; focus (intro W hW; (try dsimp only at hW); go_split_ands; go_simp; (try (simp (disch := omega) only [IntWalk.i64_in]; (try go_simp))); (try (split; (next => omega); (try go_simp))); try rfl; done))
        try simp only [Act.put, List.setIfInBounds_toArray, List.set_cons_zero, List.set_cons_succ]
        -- ready: []
        refine reg_done (by kernel_rfl) (show (fun W => W.cell? ⟨b, o + k * 2, none⟩ = some (.int .i64 x1) ∧ W.cell? ⟨b, o + k * 2 + 1, none⟩ = some (.int .i64 x2) ∧ W.cell? ⟨q3, 0, none⟩ = some (.int .i64 s) ∧ W.cell? ⟨q3, 1, none⟩ = some (.int .i64 p)) wr.drew from ⟨ha0, ha1, z0, z1⟩) ?_
        have hcd := hc.drew
        go_wp2_with (first | (with_reducible refine stop_append ?_) | (with_reducible refine stop_copy ?_) | (with_reducible refine stop_make ?_) | (with_reducible refine stop_lookup ?_) | (with_reducible refine stop_update ?_) | (with_reducible refine stop_slice ?_) | (with_reducible refine stop_range ?_) | (with_reducible refine stop_next ?_) | (with_reducible refine stop_convert ⟨_, rfl⟩ ?_) | (with_reducible refine stop_convertB ⟨_, _, _, rfl⟩ ?_) | (with_reducible refine stop_eqSlice ⟨_, _, rfl⟩ ?_))
        go_roundw
        case rel => exact ⟨k + 1, by omega, by go_num, hcd, Hr.out⟩
        case measure => simp [intOf]; omega
      · have Hr := Lib.hid (Hsn.out hq3')
        clear hq3'
        go_wp2_with (first | (with_reducible refine stop_append ?_) | (with_reducible refine stop_copy ?_) | (with_reducible refine stop_make ?_) | (with_reducible refine stop_lookup ?_) | (with_reducible refine stop_update ?_) | (with_reducible refine stop_slice ?_) | (with_reducible refine stop_range ?_) | (with_reducible refine stop_next ?_) | (with_reducible refine stop_convert ⟨_, rfl⟩ ?_) | (with_reducible refine stop_convertB ⟨_, _, _, rfl⟩ ?_) | (with_reducible refine stop_eqSlice ⟨_, _, rfl⟩ ?_))
        refine reg_start (fun W => W.cell? ⟨b, o + k * 2, none⟩ = some (.int .i64 x1) ∧ W.cell? ⟨b, o + k * 2 + 1, none⟩ = some (.int .i64 x2) ∧ W.cell? ⟨q3, 0, none⟩ = some (.int .i64 x1) ∧ W.cell? ⟨q3, 1, none⟩ = some (.int .i64 p)) (by kernel_rfl) ?_
        ((refine reg_yes (i := 0) (oi := { dst := some 19, op := Go.Op.move (Go.Operand.tmp 6), type := 42, pos := "ref.go:60", after := #[], guard := none }) (v := ?_) rfl (by kernel_rfl) (by kernel_rfl) (by kernel_rfl) (fun _ _ _ h => h) rfl ?_ ?_); rotate_left; focus (intro W hW; (try dsimp only at hW); go_split_ands; go_simp; (try (simp (disch := omega) only [IntWalk.i64_in]; (try go_simp))); (try (split; (next => omega); (try go_simp))); try rfl; done))
        try simp only [Act.put, List.setIfInBounds_toArray, List.set_cons_zero, List.set_cons_succ]
        ((refine reg_yes (i := 1) (oi := { dst := some 20, op := Go.Op.move (Go.Operand.tmp 7), type := 3, pos := "ref.go:60", after := #[], guard := none }) (v := ?_) rfl (by kernel_rfl) (by kernel_rfl) (by kernel_rfl) (fun _ _ _ h => h) rfl ?_ ?_); rotate_left; focus (intro W hW; (try dsimp only at hW); go_split_ands; go_simp; (try (simp (disch := omega) only [IntWalk.i64_in]; (try go_simp))); (try (split; (next => omega); (try go_simp))); try rfl; done))
        try simp only [Act.put, List.setIfInBounds_toArray, List.set_cons_zero, List.set_cons_succ]
        ((refine reg_yes (i := 2) (oi := { dst := some 21, op := Go.Op.indexAddr 42 (Go.Operand.tmp 19) (Go.Operand.tmp 20), type := 0, pos := "ref.go:60", after := #[{ on := 0, ground := Go.Ground.data }, { on := 1, ground := Go.Ground.data }], guard := none }) (v := ?_) rfl (by kernel_rfl) (by kernel_rfl) (by kernel_rfl) (fun _ _ _ h => h) rfl ?_ ?_); rotate_left; focus (intro W hW; (try dsimp only at hW); go_split_ands; go_simp; (try (simp (disch := omega) only [IntWalk.i64_in]; (try go_simp))); (try (split; (next => omega); (try go_simp))); try rfl; done))
        try simp only [Act.put, List.setIfInBounds_toArray, List.set_cons_zero, List.set_cons_succ]
        ((refine reg_yes (i := 3) (oi := { dst := some 22, op := Go.Op.load 24 (Go.Operand.tmp 21), type := 24, pos := "ref.go:60", after := #[{ on := 2, ground := Go.Ground.data }], guard := none }) (v := ?_) rfl (by kernel_rfl) (by kernel_rfl) (by kernel_rfl) (fun _ _ _ h => h) rfl ?_ ?_); rotate_left; focus (intro W hW; (try dsimp only at hW); go_split_ands; go_simp; (try (simp (disch := omega) only [IntWalk.i64_in]; (try go_simp))); (try (split; (next => omega); (try go_simp))); try rfl; done))
        try simp only [Act.put, List.setIfInBounds_toArray, List.set_cons_zero, List.set_cons_succ]
        ((refine reg_yes (i := 4) (oi := { dst := some 23, op := Go.Op.load 24 (Go.Operand.tmp 3), type := 24, pos := "ref.go:60", after := #[], guard := none }) (v := ?_) rfl (by kernel_rfl) (by kernel_rfl) (by kernel_rfl) (fun _ _ _ h => h) rfl ?_ ?_); rotate_left; focus (intro W hW; (try dsimp only at hW); go_split_ands; go_simp; (try (simp (disch := omega) only [IntWalk.i64_in]; (try go_simp))); (try (split; (next => omega); (try go_simp))); try rfl; done))
        try simp only [Act.put, List.setIfInBounds_toArray, List.set_cons_zero, List.set_cons_succ]
        ((refine reg_yes (i := 5) (oi := { dst := some 24, op := Go.Op.binOp Go.BinOp.eql 24 (Go.Operand.tmp 22) (Go.Operand.tmp 23) 24, type := 4, pos := "ref.go:60", after := #[{ on := 3, ground := Go.Ground.data }, { on := 4, ground := Go.Ground.data }], guard := none }) (v := ?_) rfl (by kernel_rfl) (by kernel_rfl) (by kernel_rfl) (fun _ _ _ h => h) rfl ?_ ?_); rotate_left; focus (intro W hW; (try dsimp only at hW); go_split_ands; go_simp; (try (simp (disch := omega) only [IntWalk.i64_in]; (try go_simp))); (try (split; (next => omega); (try go_simp))); try rfl; done))
        try simp only [Act.put, List.setIfInBounds_toArray, List.set_cons_zero, List.set_cons_succ]
        -- ready: []
        refine reg_done (by kernel_rfl) (show (fun W => W.cell? ⟨b, o + k * 2, none⟩ = some (.int .i64 x1) ∧ W.cell? ⟨b, o + k * 2 + 1, none⟩ = some (.int .i64 x2) ∧ W.cell? ⟨q3, 0, none⟩ = some (.int .i64 x1) ∧ W.cell? ⟨q3, 1, none⟩ = some (.int .i64 p)) wr.drew from ⟨ha0, ha1, z0, z1⟩) ?_
        have hcd := hc.drew
        go_wp2_with (first | (with_reducible refine stop_append ?_) | (with_reducible refine stop_copy ?_) | (with_reducible refine stop_make ?_) | (with_reducible refine stop_lookup ?_) | (with_reducible refine stop_update ?_) | (with_reducible refine stop_slice ?_) | (with_reducible refine stop_range ?_) | (with_reducible refine stop_next ?_) | (with_reducible refine stop_convert ⟨_, rfl⟩ ?_) | (with_reducible refine stop_convertB ⟨_, _, _, rfl⟩ ?_) | (with_reducible refine stop_eqSlice ⟨_, _, rfl⟩ ?_))
        go_roundw
        case rel => exact ⟨k + 1, by omega, by go_num, hcd, Hr.out⟩
        case measure => simp [intOf]; omega
    · obtain rfl : k = R.length := by omega
      have Hr := Lib.hid (show idxF R (s, p) = none by
        unfold idxF
        rw [List.findIdx?_eq_none_iff.2 (fun x hx => by
          obtain ⟨i, hi, rfl⟩ := List.mem_iff_getElem.1 hx
          simpa using Hno.out i hi hi)]; rfl)
      have hcd := hcw.trans hc
      go_wp2_with (first | (with_reducible refine stop_append ?_) | (with_reducible refine stop_copy ?_) | (with_reducible refine stop_make ?_) | (with_reducible refine stop_lookup ?_) | (with_reducible refine stop_update ?_) | (with_reducible refine stop_slice ?_) | (with_reducible refine stop_range ?_) | (with_reducible refine stop_next ?_) | (with_reducible refine stop_convert ⟨_, rfl⟩ ?_) | (with_reducible refine stop_convertB ⟨_, _, _, rfl⟩ ?_) | (with_reducible refine stop_eqSlice ⟨_, _, rfl⟩ ?_))
      go_ret2
      rw [Hr.out]
      exact ⟨hcd, .inr ⟨rfl, rfl⟩⟩
theorem opt_out {r : Option Int} {w w' : World} {e : Ending} (h : OptPost r w e w') : e = .returned (.tuple #[.int .i64 (r.getD 0), .bool r.isSome]) ∧ Chg No w w' := by
  obtain ⟨hc, ⟨x, rfl, rfl⟩ | ⟨rfl, rfl⟩⟩ := h <;> exact ⟨rfl, hc⟩
set_option maxRecDepth 100000 in
set_option maxHeartbeats 1000000 in
theorem ordfinds_any (n : Int) (v : Value) (l : List Ent) (s p : Int) (w : World) (h : Sl No w v l) (hl : l.length * 64 ≤ 140737488355328) (hcb : cutsB l) (hp : -9223372036854775808 ≤ p ∧ p ≤ 9223372036854775807) :
    Calls Try.prog 3 #[.int .i64 n, v, .agg #[.int .i64 s, .int .i64 p]] w fun e w' => e = .returned (.bool true) ∧ Chg No w w' := by
  have hc0 := (Chg.refl No w).alloc (.cells #[.int .i64 s, .int .i64 p] 24)
  have o5 := alloc_obj w (.cells #[.int .i64 s, .int .i64 p] 24)
  have H := Lib.hid (fun W (hW : Chg No w W) => h.keepNo hW)
  have Hfew := Lib.hid (fun W (hW : Chg No w W) => fewe_any No v l W (h.keepNo hW) hl hcb)
  obtain ⟨A, c, rfl⟩ := h.slice
  have Hmine := Lib.hid (fun W (hW : Chg No w W) => mine_any _ l W (H.out W hW) hl)
  have Hcb := Lib.hid hcb
  clear h hcb
  by_cases hn : 1 ≤ n ∧ n ≤ 8
  · obtain ⟨m, rfl⟩ : ∃ m : Nat, n = m := ⟨n.toNat, by omega⟩
    have h1 : 1 ≤ m := by omega
    have h8 : m ≤ 8 := by omega
    have Hof := Lib.hid (fun W v' (hs : Sl No W v' l) => oof_yes m v' l W h1 h8 hs hl Hcb.out)
    have hle := of_le (newF m) l
    obtain ⟨ht1, ht2⟩ := of_take (newF m) l
    have hI := inv_of (inv_new m h1 h8) l
    have hrr : RRow m (l.take (ofF (newF m) l).2) (rowF (ofF (newF m) l).1) := by
      have := rrow_of h1 h8 (l.take (ofF (newF m) l).2) (by rw [ht1, List.length_take]; omega)
      rwa [ht1] at this
    generalize ofF (newF m) l = r at *
    obtain ⟨st, k0⟩ := r
    simp only at *
    have htl : (l.take k0).length = k0 := by simp; omega
    have hra : (rowF st).length ≤ 1000000 := hrr.len
    have Hfind := Lib.hid (fun W v' (hs : Sl No W v' (l.take k0)) => rfind_any m h1 h8 v' (l.take k0) (rowF st) hrr s p W hs (by rw [htl]; omega))
    rw [idx_findF hI] at Hfind
    have HI := Lib.hid hI
    have Hlen := Lib.hid (show st.len = (rowF st).length from hI.rowLen.symm)
    clear ht1 ht2 hI hrr hn
    cases hf : fewE l with
    | false =>
      rw [hf] at Hfew
      clear hf
      go_enter Try.func3, Try.ntmps3
      go_wp2_with (first | (with_reducible refine stop_append ?_) | (with_reducible refine stop_copy ?_) | (with_reducible refine stop_make ?_) | (with_reducible refine stop_lookup ?_) | (with_reducible refine stop_update ?_) | (with_reducible refine stop_slice ?_) | (with_reducible refine stop_range ?_) | (with_reducible refine stop_next ?_) | (with_reducible refine stop_convert ⟨_, rfl⟩ ?_) | (with_reducible refine stop_convertB ⟨_, _, _, rfl⟩ ?_) | (with_reducible refine stop_eqSlice ⟨_, _, rfl⟩ ?_))
      generalize w.alloc (.cells #[.int .i64 s, .int .i64 p] 24) = w0 at *
      refine (Hmine.out _ hc0).mono ?_
      rintro e w1 ⟨v1, rfl, hc1, hs1⟩
      obtain ⟨A1, c1, rfl⟩ := hs1.slice
      have Hs1 := Lib.hid (Hof.out _ _ hs1)
      clear hs1
      go_wp2_with (first | (with_reducible refine stop_append ?_) | (with_reducible refine stop_copy ?_) | (with_reducible refine stop_make ?_) | (with_reducible refine stop_lookup ?_) | (with_reducible refine stop_update ?_) | (with_reducible refine stop_slice ?_) | (with_reducible refine stop_range ?_) | (with_reducible refine stop_next ?_) | (with_reducible refine stop_convert ⟨_, rfl⟩ ?_) | (with_reducible refine stop_convertB ⟨_, _, _, rfl⟩ ?_) | (with_reducible refine stop_eqSlice ⟨_, _, rfl⟩ ?_))
      refine Hs1.out.mono ?_
      rintro e w2 ⟨q, rfl, hc2, _⟩
      have hc02 := (hc0.trans hc1).trans hc2
      go_wp2_with (first | (with_reducible refine stop_append ?_) | (with_reducible refine stop_copy ?_) | (with_reducible refine stop_make ?_) | (with_reducible refine stop_lookup ?_) | (with_reducible refine stop_update ?_) | (with_reducible refine stop_slice ?_) | (with_reducible refine stop_range ?_) | (with_reducible refine stop_next ?_) | (with_reducible refine stop_convert ⟨_, rfl⟩ ?_) | (with_reducible refine stop_convertB ⟨_, _, _, rfl⟩ ?_) | (with_reducible refine stop_eqSlice ⟨_, _, rfl⟩ ?_))
      refine (Hfew.out _ hc02).mono ?_
      rintro e w3 ⟨rfl, hc3⟩
      go_wp2_with (first | (with_reducible refine stop_append ?_) | (with_reducible refine stop_copy ?_) | (with_reducible refine stop_make ?_) | (with_reducible refine stop_lookup ?_) | (with_reducible refine stop_update ?_) | (with_reducible refine stop_slice ?_) | (with_reducible refine stop_range ?_) | (with_reducible refine stop_next ?_) | (with_reducible refine stop_convert ⟨_, rfl⟩ ?_) | (with_reducible refine stop_convertB ⟨_, _, _, rfl⟩ ?_) | (with_reducible refine stop_eqSlice ⟨_, _, rfl⟩ ?_))
      refine (oalive_any _).mono ?_
      rintro e w4 ⟨rfl, hc4⟩
      go_wp2_with (first | (with_reducible refine stop_append ?_) | (with_reducible refine stop_copy ?_) | (with_reducible refine stop_make ?_) | (with_reducible refine stop_lookup ?_) | (with_reducible refine stop_update ?_) | (with_reducible refine stop_slice ?_) | (with_reducible refine stop_range ?_) | (with_reducible refine stop_next ?_) | (with_reducible refine stop_convert ⟨_, rfl⟩ ?_) | (with_reducible refine stop_convertB ⟨_, _, _, rfl⟩ ?_) | (with_reducible refine stop_eqSlice ⟨_, _, rfl⟩ ?_))
      go_ret
      exact ⟨by simp, (hc02.trans hc3).trans hc4⟩
    | true =>
      rw [hf] at Hfew
      clear hf
      go_enter Try.func3, Try.ntmps3
      go_wp2_with (first | (with_reducible refine stop_append ?_) | (with_reducible refine stop_copy ?_) | (with_reducible refine stop_make ?_) | (with_reducible refine stop_lookup ?_) | (with_reducible refine stop_update ?_) | (with_reducible refine stop_slice ?_) | (with_reducible refine stop_range ?_) | (with_reducible refine stop_next ?_) | (with_reducible refine stop_convert ⟨_, rfl⟩ ?_) | (with_reducible refine stop_convertB ⟨_, _, _, rfl⟩ ?_) | (with_reducible refine stop_eqSlice ⟨_, _, rfl⟩ ?_))
      generalize w.alloc (.cells #[.int .i64 s, .int .i64 p] 24) = w0 at *
      generalize w.heap.size = q5 at *
      refine (Hmine.out _ hc0).mono ?_
      rintro e w1 ⟨v1, rfl, hc1, hs1⟩
      obtain ⟨A1, c1, rfl⟩ := hs1.slice
      have Hs1 := Lib.hid (Hof.out _ _ hs1)
      clear hs1
      go_wp2_with (first | (with_reducible refine stop_append ?_) | (with_reducible refine stop_copy ?_) | (with_reducible refine stop_make ?_) | (with_reducible refine stop_lookup ?_) | (with_reducible refine stop_update ?_) | (with_reducible refine stop_slice ?_) | (with_reducible refine stop_range ?_) | (with_reducible refine stop_next ?_) | (with_reducible refine stop_convert ⟨_, rfl⟩ ?_) | (with_reducible refine stop_convertB ⟨_, _, _, rfl⟩ ?_) | (with_reducible refine stop_eqSlice ⟨_, _, rfl⟩ ?_))
      refine Hs1.out.mono ?_
      rintro e w2 ⟨q, rfl, hc2, ho⟩
      have Ho := Lib.hid (fun W (hW : Chg No w2 W) => ho.keepNo hW)
      clear ho
      have hc02 := (hc0.trans hc1).trans hc2
      go_wp2_with (first | (with_reducible refine stop_append ?_) | (with_reducible refine stop_copy ?_) | (with_reducible refine stop_make ?_) | (with_reducible refine stop_lookup ?_) | (with_reducible refine stop_update ?_) | (with_reducible refine stop_slice ?_) | (with_reducible refine stop_range ?_) | (with_reducible refine stop_next ?_) | (with_reducible refine stop_convert ⟨_, rfl⟩ ?_) | (with_reducible refine stop_convertB ⟨_, _, _, rfl⟩ ?_) | (with_reducible refine stop_eqSlice ⟨_, _, rfl⟩ ?_))
      refine (Hfew.out _ hc02).mono ?_
      rintro e w3 ⟨rfl, hc3⟩
      have hc03 := hc02.trans hc3
      go_wp2_with (first | (with_reducible refine stop_append ?_) | (with_reducible refine stop_copy ?_) | (with_reducible refine stop_make ?_) | (with_reducible refine stop_lookup ?_) | (with_reducible refine stop_update ?_) | (with_reducible refine stop_slice ?_) | (with_reducible refine stop_range ?_) | (with_reducible refine stop_next ?_) | (with_reducible refine stop_convert ⟨_, rfl⟩ ?_) | (with_reducible refine stop_convertB ⟨_, _, _, rfl⟩ ?_) | (with_reducible refine stop_eqSlice ⟨_, _, rfl⟩ ?_))
      refine step_slice (α := Ent) (l := 0) (h := k0) Try.underlying22 info_rent (H.out _ hc03) rfl Bound.none (Bound.some rfl) (by omega) hle ?_
      intro A4 c4 hs4
      simp only [Nat.sub_zero, List.drop_zero] at hs4 ⊢
      have Hs4 := Lib.hid hs4
      clear hs4
      have hca := (Chg.refl No w3).alloc (.cells #[.int .i64 m, .slice A4 k0 c4] 33)
      have o9 := alloc_obj w3 (.cells #[.int .i64 m, .slice A4 k0 c4] 33)
      have o5a := (((hc1.trans hc2).trans hc3).trans hca).obj o5 (not_no _)
      have y0 := cell_obj (i := 0) o5a (u := .int .i64 s) rfl
      have y1 := cell_obj (i := 1) o5a (u := .int .i64 p) rfl
      go_wp2_with (first | (with_reducible refine stop_append ?_) | (with_reducible refine stop_copy ?_) | (with_reducible refine stop_make ?_) | (with_reducible refine stop_lookup ?_) | (with_reducible refine stop_update ?_) | (with_reducible refine stop_slice ?_) | (with_reducible refine stop_range ?_) | (with_reducible refine stop_next ?_) | (with_reducible refine stop_convert ⟨_, rfl⟩ ?_) | (with_reducible refine stop_convertB ⟨_, _, _, rfl⟩ ?_) | (with_reducible refine stop_eqSlice ⟨_, _, rfl⟩ ?_))
      generalize w3.alloc (.cells #[.int .i64 m, .slice A4 k0 c4] 33) = w4 at *
      generalize w3.heap.size = q9 at *
      have hc24 := hc3.trans hca
      have Hf1 := Lib.hid ((ofind_any (Ho.out _ hc24) HI.out s p hp).mono (fun e w' h => opt_out h))
      have Hf2 := Lib.hid (fun W v' hs => (Hfind.out W v' hs).mono (fun e w' h => opt_out h))
      clear Hfind
      generalize (findF st.runs (s, p)).getD 0 = x0 at *
      generalize (findF st.runs (s, p)).isSome = b0 at *
      refine Hf1.out.mono ?_
      rintro e w5 ⟨rfl, hc5⟩
      have o9 := hc5.obj o9 (not_no _)
      have o5b := hc5.obj o5a (not_no _)
      have x9 := cell_obj (i := 0) o9 (u := .int .i64 m) rfl
      have x9' := cell_obj (i := 1) o9 (u := .slice A4 k0 c4) rfl
      have y0 := cell_obj (i := 0) o5b (u := .int .i64 s) rfl
      have y1 := cell_obj (i := 1) o5b (u := .int .i64 p) rfl
      have hc25 := hc24.trans hc5
      go_wp2_with (first | (with_reducible refine stop_append ?_) | (with_reducible refine stop_copy ?_) | (with_reducible refine stop_make ?_) | (with_reducible refine stop_lookup ?_) | (with_reducible refine stop_update ?_) | (with_reducible refine stop_slice ?_) | (with_reducible refine stop_range ?_) | (with_reducible refine stop_next ?_) | (with_reducible refine stop_convert ⟨_, rfl⟩ ?_) | (with_reducible refine stop_convertB ⟨_, _, _, rfl⟩ ?_) | (with_reducible refine stop_eqSlice ⟨_, _, rfl⟩ ?_))
      refine (Hf2.out _ _ (Hs4.out.keepNo (hca.trans hc5))).mono ?_
      rintro e w6 ⟨rfl, hc6⟩
      have hc26 := hc25.trans hc6
      clear x9 x9' y0 y1 Hf1 Hf2 Hs4 o9 o5 o5a o5b
      go_wp2_with (first | (with_reducible refine stop_append ?_) | (with_reducible refine stop_copy ?_) | (with_reducible refine stop_make ?_) | (with_reducible refine stop_lookup ?_) | (with_reducible refine stop_update ?_) | (with_reducible refine stop_slice ?_) | (with_reducible refine stop_range ?_) | (with_reducible refine stop_next ?_) | (with_reducible refine stop_convert ⟨_, rfl⟩ ?_) | (with_reducible refine stop_convertB ⟨_, _, _, rfl⟩ ?_) | (with_reducible refine stop_eqSlice ⟨_, _, rfl⟩ ?_))
      refine (olen_any (Ho.out _ hc26) HI.out).mono ?_
      rw [Hlen.out]
      rintro e w7 ⟨rfl, hc7⟩
      have hc27 := hc26.trans hc7
      go_wp2_with (first | (with_reducible refine stop_append ?_) | (with_reducible refine stop_copy ?_) | (with_reducible refine stop_make ?_) | (with_reducible refine stop_lookup ?_) | (with_reducible refine stop_update ?_) | (with_reducible refine stop_slice ?_) | (with_reducible refine stop_range ?_) | (with_reducible refine stop_next ?_) | (with_reducible refine stop_convert ⟨_, rfl⟩ ?_) | (with_reducible refine stop_convertB ⟨_, _, _, rfl⟩ ?_) | (with_reducible refine stop_eqSlice ⟨_, _, rfl⟩ ?_))
      go_loopw [14, 15, 16, 17, 18, 69] (fun _ _ _ _ _ v69 wr => ∃ k : Nat, k ≤ (rowF st).length ∧ v69 = .int .i64 k ∧ Chg No w2 wr) (fun _ _ _ _ _ v69 _ => (rowF st).length - (intOf v69).toNat)
      case atStart => exact ⟨0, by omega, rfl, hc27⟩
      case round =>
        obtain ⟨k, hk, rfl, hcr⟩ := hrel
        by_cases hlt : k < (rowF st).length
        · have hat := at_row HI.out k hlt
          have hfa := find_at HI.out k hlt
          have hrm := row_mem HI.out (List.getElem_mem hlt)
          generalize (rowF st)[k] = x at hat hfa hrm
          obtain ⟨x, y⟩ := x
          have hcall := at_any (Ho.out wr hcr) HI.out k
          rw [hat] at hcall
          have hfin := fun W (hW : Chg No w2 W) => ofind_any (Ho.out W hW) HI.out x y (by simp only at hrm; omega)
          rw [hfa] at hfin
          have Hcall := Lib.hid hcall
          have Hfin := Lib.hid hfin
          clear hcall hfin hat hfa hrm
          go_wp2_with (first | (with_reducible refine stop_append ?_) | (with_reducible refine stop_copy ?_) | (with_reducible refine stop_make ?_) | (with_reducible refine stop_lookup ?_) | (with_reducible refine stop_update ?_) | (with_reducible refine stop_slice ?_) | (with_reducible refine stop_range ?_) | (with_reducible refine stop_next ?_) | (with_reducible refine stop_convert ⟨_, rfl⟩ ?_) | (with_reducible refine stop_convertB ⟨_, _, _, rfl⟩ ?_) | (with_reducible refine stop_eqSlice ⟨_, _, rfl⟩ ?_))
          refine Hcall.out.mono ?_
          rintro e w8 ⟨hc8, ⟨z, hz, rfl⟩ | ⟨hz, _⟩⟩
          rotate_left
          · cases hz
          cases hz
          simp only
          have hc9 := (hcr.trans hc8).alloc (.cells #[.int .i64 x, .int .i64 y] 36)
          go_wp2_with (first | (with_reducible refine stop_append ?_) | (with_reducible refine stop_copy ?_) | (with_reducible refine stop_make ?_) | (with_reducible refine stop_lookup ?_) | (with_reducible refine stop_update ?_) | (with_reducible refine stop_slice ?_) | (with_reducible refine stop_range ?_) | (with_reducible refine stop_next ?_) | (with_reducible refine stop_convert ⟨_, rfl⟩ ?_) | (with_reducible refine stop_convertB ⟨_, _, _, rfl⟩ ?_) | (with_reducible refine stop_eqSlice ⟨_, _, rfl⟩ ?_))
          generalize w8.alloc (.cells #[.int .i64 x, .int .i64 y] 36) = w9 at *
          refine (Hfin.out w9 hc9).mono ?_
          rintro e w10 ⟨hc10, ⟨z, hz, rfl⟩ | ⟨hz, _⟩⟩
          rotate_left
          · cases hz
          cases hz
          have hc10 := hc9.trans hc10
          go_wp2_with (first | (with_reducible refine stop_append ?_) | (with_reducible refine stop_copy ?_) | (with_reducible refine stop_make ?_) | (with_reducible refine stop_lookup ?_) | (with_reducible refine stop_update ?_) | (with_reducible refine stop_slice ?_) | (with_reducible refine stop_range ?_) | (with_reducible refine stop_next ?_) | (with_reducible refine stop_convert ⟨_, rfl⟩ ?_) | (with_reducible refine stop_convertB ⟨_, _, _, rfl⟩ ?_) | (with_reducible refine stop_eqSlice ⟨_, _, rfl⟩ ?_))
          go_roundw
          case rel => exact ⟨k + 1, by omega, by go_num, hc10⟩
          case measure => simp [intOf]; omega
        · obtain rfl : k = (rowF st).length := by omega
          have Hm1 := Lib.hid (show atF st (-1) = none by simp [atF])
          have Hm2 := Lib.hid (show atF st ((rowF st).length : Int) = none by simp only [atF]; rw [Hlen.out, if_neg (by omega)])
          go_wp2_with (first | (with_reducible refine stop_append ?_) | (with_reducible refine stop_copy ?_) | (with_reducible refine stop_make ?_) | (with_reducible refine stop_lookup ?_) | (with_reducible refine stop_update ?_) | (with_reducible refine stop_slice ?_) | (with_reducible refine stop_range ?_) | (with_reducible refine stop_next ?_) | (with_reducible refine stop_convert ⟨_, rfl⟩ ?_) | (with_reducible refine stop_convertB ⟨_, _, _, rfl⟩ ?_) | (with_reducible refine stop_eqSlice ⟨_, _, rfl⟩ ?_))
          refine (at_any (Ho.out wr hcr) HI.out (-1)).mono ?_
          rw [Hm1.out]
          rintro e w8 ⟨hc8, ⟨z, hz, _⟩ | ⟨_, rfl⟩⟩
          · cases hz
          have hc8 := (hcr.trans hc8).alloc (.cells #[.int .i64 0, .int .i64 0] 36)
          go_wp2_with (first | (with_reducible refine stop_append ?_) | (with_reducible refine stop_copy ?_) | (with_reducible refine stop_make ?_) | (with_reducible refine stop_lookup ?_) | (with_reducible refine stop_update ?_) | (with_reducible refine stop_slice ?_) | (with_reducible refine stop_range ?_) | (with_reducible refine stop_next ?_) | (with_reducible refine stop_convert ⟨_, rfl⟩ ?_) | (with_reducible refine stop_convertB ⟨_, _, _, rfl⟩ ?_) | (with_reducible refine stop_eqSlice ⟨_, _, rfl⟩ ?_))
          generalize w8.alloc (.cells #[.int .i64 0, .int .i64 0] 36) = w9 at *
          refine (olen_any (Ho.out w9 hc8) HI.out).mono ?_
          rw [Hlen.out]
          rintro e w10 ⟨rfl, hc10⟩
          have hc10 := hc8.trans hc10
          go_wp2_with (first | (with_reducible refine stop_append ?_) | (with_reducible refine stop_copy ?_) | (with_reducible refine stop_make ?_) | (with_reducible refine stop_lookup ?_) | (with_reducible refine stop_update ?_) | (with_reducible refine stop_slice ?_) | (with_reducible refine stop_range ?_) | (with_reducible refine stop_next ?_) | (with_reducible refine stop_convert ⟨_, rfl⟩ ?_) | (with_reducible refine stop_convertB ⟨_, _, _, rfl⟩ ?_) | (with_reducible refine stop_eqSlice ⟨_, _, rfl⟩ ?_))
          refine (at_any (Ho.out w10 hc10) HI.out (rowF st).length).mono ?_
          rw [Hm2.out]
          rintro e w11 ⟨hc11, ⟨z, hz, _⟩ | ⟨_, rfl⟩⟩
          · cases hz
          have hc11 := (hc10.trans hc11).alloc (.cells #[.int .i64 0, .int .i64 0] 36)
          go_wp2_with (first | (with_reducible refine stop_append ?_) | (with_reducible refine stop_copy ?_) | (with_reducible refine stop_make ?_) | (with_reducible refine stop_lookup ?_) | (with_reducible refine stop_update ?_) | (with_reducible refine stop_slice ?_) | (with_reducible refine stop_range ?_) | (with_reducible refine stop_next ?_) | (with_reducible refine stop_convert ⟨_, rfl⟩ ?_) | (with_reducible refine stop_convertB ⟨_, _, _, rfl⟩ ?_) | (with_reducible refine stop_eqSlice ⟨_, _, rfl⟩ ?_))
          generalize w11.alloc (.cells #[.int .i64 0, .int .i64 0] 36) = w12 at *
          refine (oalive_any _).mono ?_
          rintro e w13 ⟨rfl, hc13⟩
          go_wp2_with (first | (with_reducible refine stop_append ?_) | (with_reducible refine stop_copy ?_) | (with_reducible refine stop_make ?_) | (with_reducible refine stop_lookup ?_) | (with_reducible refine stop_update ?_) | (with_reducible refine stop_slice ?_) | (with_reducible refine stop_range ?_) | (with_reducible refine stop_next ?_) | (with_reducible refine stop_convert ⟨_, rfl⟩ ?_) | (with_reducible refine stop_convertB ⟨_, _, _, rfl⟩ ?_) | (with_reducible refine stop_eqSlice ⟨_, _, rfl⟩ ?_))
          go_ret
          exact ⟨rfl, (hc02.trans hc11).trans hc13⟩
  · go_enter Try.func3, Try.ntmps3
    go_wp2_with (first | (with_reducible refine stop_append ?_) | (with_reducible refine stop_copy ?_) | (with_reducible refine stop_make ?_) | (with_reducible refine stop_lookup ?_) | (with_reducible refine stop_update ?_) | (with_reducible refine stop_slice ?_) | (with_reducible refine stop_range ?_) | (with_reducible refine stop_next ?_) | (with_reducible refine stop_convert ⟨_, rfl⟩ ?_) | (with_reducible refine stop_convertB ⟨_, _, _, rfl⟩ ?_) | (with_reducible refine stop_eqSlice ⟨_, _, rfl⟩ ?_))
    generalize w.alloc (.cells #[.int .i64 s, .int .i64 p] 24) = w0 at *
    refine (Hmine.out _ hc0).mono ?_
    rintro e w1 ⟨v1, rfl, hc1, hs1⟩
    obtain ⟨A1, c1, rfl⟩ := hs1.slice
    have Hs1 := Lib.hid (oof_no n _ l _ hn hs1)
    clear hs1
    go_wp2_with (first | (with_reducible refine stop_append ?_) | (with_reducible refine stop_copy ?_) | (with_reducible refine stop_make ?_) | (with_reducible refine stop_lookup ?_) | (with_reducible refine stop_update ?_) | (with_reducible refine stop_slice ?_) | (with_reducible refine stop_range ?_) | (with_reducible refine stop_next ?_) | (with_reducible refine stop_convert ⟨_, rfl⟩ ?_) | (with_reducible refine stop_convertB ⟨_, _, _, rfl⟩ ?_) | (with_reducible refine stop_eqSlice ⟨_, _, rfl⟩ ?_))
    refine Hs1.out.mono ?_
    rintro e w2 ⟨rfl, hc2⟩
    go_wp2_with (first | (with_reducible refine stop_append ?_) | (with_reducible refine stop_copy ?_) | (with_reducible refine stop_make ?_) | (with_reducible refine stop_lookup ?_) | (with_reducible refine stop_update ?_) | (with_reducible refine stop_slice ?_) | (with_reducible refine stop_range ?_) | (with_reducible refine stop_next ?_) | (with_reducible refine stop_convert ⟨_, rfl⟩ ?_) | (with_reducible refine stop_convertB ⟨_, _, _, rfl⟩ ?_) | (with_reducible refine stop_eqSlice ⟨_, _, rfl⟩ ?_))
    refine (oalive_any _).mono ?_
    rintro e w3 ⟨rfl, hc3⟩
    go_wp2_with (first | (with_reducible refine stop_append ?_) | (with_reducible refine stop_copy ?_) | (with_reducible refine stop_make ?_) | (with_reducible refine stop_lookup ?_) | (with_reducible refine stop_update ?_) | (with_reducible refine stop_slice ?_) | (with_reducible refine stop_range ?_) | (with_reducible refine stop_next ?_) | (with_reducible refine stop_convert ⟨_, rfl⟩ ?_) | (with_reducible refine stop_convertB ⟨_, _, _, rfl⟩ ?_) | (with_reducible refine stop_eqSlice ⟨_, _, rfl⟩ ?_))
    go_ret
    exact ⟨rfl, ((hc0.trans hc1).trans hc2).trans hc3⟩
end Go.Proofs.Ytbjpoamnglfjeaa

/- Walks of the document's vector: Quorum. -/
import Derived.Test.YtlpnbbjmcmjkpaaRefQ
set_option linter.unusedVariables false
set_option linter.unusedSimpArgs false
namespace Go.Proofs.Ytlpnbbjmcmjkpaa
open Go.RowKit Cb

theorem rows_at {F : Nat → Prop} {w : World} {b o n c : Nat} {l : List (List Int)} (h : Sl F w (.slice (some ⟨b, o, none⟩) n c) l) (k : Nat) (hk : k < l.length) :
    ∃ v, ¬ F b ∧ b < w.heap.size ∧ w.cell? ⟨b, o + k, none⟩ = some v ∧ Sl F w v l[k] := by
  obtain ⟨b', o', v, e, h1, h2, h3, h4⟩ := rows_get h k hk
  simp only [Option.some.injEq, Addr.mk.injEq, and_true] at e
  obtain ⟨rfl, rfl⟩ := e
  exact ⟨v, h1, h2, h3, h4⟩
theorem best_quor {l : List (List Int)} (h0 : 0 < l.length) (hb : quorBad l = false) {need : Nat} (h1 : 1 ≤ need) (h2 : need ≤ l.length) (k : Nat) (hk : k < (headL l).length) :
    (quorL l need).take (k + 1) = (quorL l need).take k ++ [bestF (column l k) need l.length] := by
  have hc : (column l k).length = l.length := by simp [column]
  rw [List.take_succ_eq_append_getElem (by rw [quor_len]; exact hk), quor_at]
  congr 2
  have := best_eq (col := column l k) h1 (by omega) (fun x hx => by
    obtain ⟨v, hv, e⟩ := List.mem_map.1 hx
    obtain ⟨r1, _, r3⟩ := kind_iff.1 (quor_kind hb hv)
    rw [← e, List.getD_eq_getElem?_getD, List.getElem?_eq_getElem (by omega)]
    exact (right_at r1 k (by omega)).1)
  rw [hc] at this
  rw [this]
set_option maxRecDepth 100000 in
set_option maxHeartbeats 2000000 in
theorem rquorum_any (F : Nat → Prop) (v : Value) (l : List (List Int)) (need : Int) (w : World) (hs : Sl F w v l) (hll : l.length ≤ 1000000) (hb : ∀ v ∈ l, v.length * 8 ≤ 140737488355328) :
    Calls Try.prog 14 #[v, .int .i64 need] w (PairPost (quorumF l need) w) := by
  have Hs := Lib.hid (fun W (hW : Chg No w W) => (Sl.up' hs).keepNo hW)
  have Hs2 := Lib.hid hs
  have Hb := Lib.hid hb
  obtain ⟨A, c, rfl⟩ := hs.slice
  clear hs hb
  have hcase : (l.length = 0 ∧ quorumF l need = none) ∨ (0 < l.length ∧ need < 1 ∧ quorumF l need = none) ∨ (0 < l.length ∧ 1 ≤ need ∧ (l.length : Int) < need ∧ quorumF l need = none) ∨ (0 < l.length ∧ 1 ≤ need ∧ need ≤ l.length) := by
    by_cases h0 : 0 < l.length
    · by_cases h1 : 1 ≤ need
      · by_cases h2 : need ≤ l.length
        · exact .inr (.inr (.inr ⟨h0, h1, h2⟩))
        · exact .inr (.inr (.inl ⟨h0, h1, by omega, quor_no (fun h => h2 h.2.1.2)⟩))
      · exact .inr (.inl ⟨h0, by omega, quor_no (fun h => h1 h.2.1.1)⟩)
    · exact .inl ⟨by omega, quor_no (fun h => h0 h.1)⟩
  rcases hcase with ⟨h0, hr⟩ | ⟨h0, h1, hr⟩ | ⟨h0, h1, h2, hr⟩ | ⟨h0, h1, h2⟩
  · rw [hr]
    rw [h0]
    go_enter Try.func14, Try.ntmps14
    go_wp2_with (first | (with_reducible refine stop_append ?_) | (with_reducible refine stop_copy ?_) | (with_reducible refine stop_make ?_) | (with_reducible refine stop_lookup ?_) | (with_reducible refine stop_update ?_) | (with_reducible refine stop_slice ?_) | (with_reducible refine stop_range ?_) | (with_reducible refine stop_next ?_) | (with_reducible refine stop_convert ⟨_, rfl⟩ ?_) | (with_reducible refine stop_convertB ⟨_, _, _, rfl⟩ ?_) | (with_reducible refine stop_eqSlice ⟨_, _, rfl⟩ ?_))
    go_ret2
    exact ⟨Chg.refl _ _, .inr ⟨rfl, rfl⟩⟩
  · rw [hr]
    have h0' : ((l.length : Int) == 0) = false := by
      have : l.length ≠ 0 := by omega
      simpa using this
    clear hr
    go_enter Try.func14, Try.ntmps14
    go_wp2_with (first | (with_reducible refine stop_append ?_) | (with_reducible refine stop_copy ?_) | (with_reducible refine stop_make ?_) | (with_reducible refine stop_lookup ?_) | (with_reducible refine stop_update ?_) | (with_reducible refine stop_slice ?_) | (with_reducible refine stop_range ?_) | (with_reducible refine stop_next ?_) | (with_reducible refine stop_convert ⟨_, rfl⟩ ?_) | (with_reducible refine stop_convertB ⟨_, _, _, rfl⟩ ?_) | (with_reducible refine stop_eqSlice ⟨_, _, rfl⟩ ?_))
    go_ret2
    exact ⟨Chg.refl _ _, .inr ⟨rfl, rfl⟩⟩
  · rw [hr]
    have h0' : ((l.length : Int) == 0) = false := by
      have : l.length ≠ 0 := by omega
      simpa using this
    clear hr
    go_enter Try.func14, Try.ntmps14
    go_wp2_with (first | (with_reducible refine stop_append ?_) | (with_reducible refine stop_copy ?_) | (with_reducible refine stop_make ?_) | (with_reducible refine stop_lookup ?_) | (with_reducible refine stop_update ?_) | (with_reducible refine stop_slice ?_) | (with_reducible refine stop_range ?_) | (with_reducible refine stop_next ?_) | (with_reducible refine stop_convert ⟨_, rfl⟩ ?_) | (with_reducible refine stop_convertB ⟨_, _, _, rfl⟩ ?_) | (with_reducible refine stop_eqSlice ⟨_, _, rfl⟩ ?_))
    go_ret2
    exact ⟨Chg.refl _ _, .inr ⟨rfl, rfl⟩⟩
  · have h0' : ((l.length : Int) == 0) = false := by
      have : l.length ≠ 0 := by omega
      simpa using this
    obtain ⟨nd, rfl⟩ : ∃ n : Nat, need = n := ⟨need.toNat, by omega⟩
    have h1 : 1 ≤ nd := by omega
    have h2 : nd ≤ l.length := by omega
    obtain ⟨b, o, v0, rfl, _, _, _, _⟩ := rows_get Hs2.out 0 h0
    have Hh := Lib.hid (headL_get h0)
    have hlen : (0 : Int) < l.length := by omega
    go_enter Try.func14, Try.ntmps14
    go_wp2_with (first | (with_reducible refine stop_append ?_) | (with_reducible refine stop_copy ?_) | (with_reducible refine stop_make ?_) | (with_reducible refine stop_lookup ?_) | (with_reducible refine stop_update ?_) | (with_reducible refine stop_slice ?_) | (with_reducible refine stop_range ?_) | (with_reducible refine stop_next ?_) | (with_reducible refine stop_convert ⟨_, rfl⟩ ?_) | (with_reducible refine stop_convertB ⟨_, _, _, rfl⟩ ?_) | (with_reducible refine stop_eqSlice ⟨_, _, rfl⟩ ?_))
    simp only [show decide ((nd : Int) < 1) = false from decide_eq_false (by omega), show decide (l.length < nd) = false from decide_eq_false (by omega), Bool.or_self, Bool.or_false, Bool.false_or]
    go_loopw [6] (fun v6 wr => ∃ i : Nat, i ≤ l.length ∧ v6 = .int .i64 i ∧ Chg No w wr ∧ ∀ j (h : j < l.length), j < i → kindB l[j] (headL l) = true) (fun v6 _ => l.length - (intOf v6).toNat)
    case atStart => exact ⟨0, by omega, rfl, Chg.refl _ _, fun _ _ h => by omega⟩
    case round =>
      obtain ⟨i, hi, rfl, hc, hall⟩ := hrel
      have Hall := Lib.hid hall
      clear hall
      by_cases hlt : i < l.length
      · obtain ⟨u, _, hbl, ha0, hu⟩ := rows_at (Hs.out _ hc) i hlt
        obtain ⟨u0, _, _, hb0, hu0⟩ := rows_at (Hs.out _ hc) 0 h0
        simp only [Nat.add_zero] at hb0
        rw [← Hh.out] at hu0
        have hx := Hb.out _ (List.getElem_mem hlt)
        have hx0 := Hb.out _ (head_mem h0)
        have Hcall := Lib.hid (fun W (hW : Chg No wr W) => rkind_any _ _ u u0 l[i] (headL l) W (hu.keepNo hW) (hu0.keepNo hW) hx hx0)
        have Hbad := Lib.hid (show kindB l[i] (headL l) = false → quorumF l nd = none from fun h => quor_no (fun hq => by
          have := quor_kind hq.2.2 (List.getElem_mem hlt)
          rw [h] at this; cases this))
        have Hgo := Lib.hid (show kindB l[i] (headL l) = true → ∀ j (h : j < l.length), j < i + 1 → kindB l[j] (headL l) = true from fun hk j h hj => by
          rcases Nat.lt_or_ge j i with h' | h'
          · exact Hall.out j h h'
          · obtain rfl : j = i := by omega
            exact hk)
        obtain ⟨Au, cu, rfl⟩ := hu.slice
        obtain ⟨A0, c0, rfl⟩ := hu0.slice
        clear hu hu0
        generalize l[i] = row at *
        cases hk : kindB row (headL l) with
        | false =>
          rw [hk] at Hcall
          have Hr := Lib.hid (Hbad.out hk)
          clear hk
          go_wp2_with (first | (with_reducible refine stop_append ?_) | (with_reducible refine stop_copy ?_) | (with_reducible refine stop_make ?_) | (with_reducible refine stop_lookup ?_) | (with_reducible refine stop_update ?_) | (with_reducible refine stop_slice ?_) | (with_reducible refine stop_range ?_) | (with_reducible refine stop_next ?_) | (with_reducible refine stop_convert ⟨_, rfl⟩ ?_) | (with_reducible refine stop_convertB ⟨_, _, _, rfl⟩ ?_) | (with_reducible refine stop_eqSlice ⟨_, _, rfl⟩ ?_))
          refine pl_start (fun W => W.cell? ⟨b, o + i, none⟩ = some (.slice Au row.length cu) ∧ W.cell? ⟨b, o, none⟩ = some (.slice A0 (headL l).length c0) ∧ Chg No wr W) (by kernel_rfl) (by kernel_rfl) ⟨ha0, hb0, (Chg.refl No wr).drew⟩ ?_
          ((refine pl_yes (i := 0) (oi := { dst := some 30, op := Go.Op.move (Go.Operand.tmp 0), type := 22, pos := "ref.go:124", after := #[], guard := none }) (v := ?_) rfl (by kernel_rfl) (by kernel_rfl) rfl ?_ ?_); rotate_left; focus (intro W hW; (try dsimp only at hW); go_split_ands; go_simp; (try (simp (disch := omega) only [IntWalk.i64_in]; (try go_simp))); (try (split; (next => omega); (try go_simp))); try rfl; done))
          try simp only [Act.put, List.setIfInBounds_toArray, List.set_cons_zero, List.set_cons_succ]
          ((refine pl_yes (i := 1) (oi := { dst := some 31, op := Go.Op.move (Go.Operand.tmp 6), type := 3, pos := "ref.go:124", after := #[], guard := none }) (v := ?_) rfl (by kernel_rfl) (by kernel_rfl) rfl ?_ ?_); rotate_left; focus (intro W hW; (try dsimp only at hW); go_split_ands; go_simp; (try (simp (disch := omega) only [IntWalk.i64_in]; (try go_simp))); (try (split; (next => omega); (try go_simp))); try rfl; done))
          try simp only [Act.put, List.setIfInBounds_toArray, List.set_cons_zero, List.set_cons_succ]
          ((refine pl_yes (i := 2) (oi := { dst := some 32, op := Go.Op.indexAddr 22 (Go.Operand.tmp 30) (Go.Operand.tmp 31), type := 0, pos := "ref.go:124", after := #[{ on := 0, ground := Go.Ground.data }, { on := 1, ground := Go.Ground.data }], guard := none }) (v := ?_) rfl (by kernel_rfl) (by kernel_rfl) rfl ?_ ?_); rotate_left; focus (intro W hW; (try dsimp only at hW); go_split_ands; go_simp; (try (simp (disch := omega) only [IntWalk.i64_in]; (try go_simp))); (try (split; (next => omega); (try go_simp))); try rfl; done))
          try simp only [Act.put, List.setIfInBounds_toArray, List.set_cons_zero, List.set_cons_succ]
          ((refine pl_yes (i := 3) (oi := { dst := some 33, op := Go.Op.load 24 (Go.Operand.tmp 32), type := 24, pos := "ref.go:124", after := #[{ on := 2, ground := Go.Ground.data }], guard := none }) (v := ?_) rfl (by kernel_rfl) (by kernel_rfl) rfl ?_ ?_); rotate_left; focus (intro W hW; (try dsimp only at hW); go_split_ands; go_simp; (try (simp (disch := omega) only [IntWalk.i64_in]; (try go_simp))); (try (split; (next => omega); (try go_simp))); try rfl; done))
          try simp only [Act.put, List.setIfInBounds_toArray, List.set_cons_zero, List.set_cons_succ]
          ((refine pl_yes (i := 4) (oi := { dst := some 34, op := Go.Op.move (Go.Operand.tmp 0), type := 22, pos := "ref.go:124", after := #[], guard := none }) (v := ?_) rfl (by kernel_rfl) (by kernel_rfl) rfl ?_ ?_); rotate_left; focus (intro W hW; (try dsimp only at hW); go_split_ands; go_simp; (try (simp (disch := omega) only [IntWalk.i64_in]; (try go_simp))); (try (split; (next => omega); (try go_simp))); try rfl; done))
          try simp only [Act.put, List.setIfInBounds_toArray, List.set_cons_zero, List.set_cons_succ]
          ((refine pl_yes (i := 5) (oi := { dst := some 35, op := Go.Op.indexAddr 22 (Go.Operand.tmp 34) (Go.Operand.const (Go.Value.int Go.IntKind.i64 0)), type := 0, pos := "ref.go:124", after := #[{ on := 4, ground := Go.Ground.data }], guard := none }) (v := ?_) rfl (by kernel_rfl) (by kernel_rfl) rfl ?_ ?_); rotate_left; focus (intro W hW; (try dsimp only at hW); go_split_ands; go_simp; (try (simp (disch := omega) only [IntWalk.i64_in]; (try go_simp))); (try (split; (next => omega); (try go_simp))); try rfl; done))
          try simp only [Act.put, List.setIfInBounds_toArray, List.set_cons_zero, List.set_cons_succ]
          ((refine pl_yes (i := 6) (oi := { dst := some 36, op := Go.Op.load 24 (Go.Operand.tmp 35), type := 24, pos := "ref.go:124", after := #[{ on := 5, ground := Go.Ground.data }], guard := none }) (v := ?_) rfl (by kernel_rfl) (by kernel_rfl) rfl ?_ ?_); rotate_left; focus (intro W hW; (try dsimp only at hW); go_split_ands; go_simp; (try (simp (disch := omega) only [IntWalk.i64_in]; (try go_simp))); (try (split; (next => omega); (try go_simp))); try rfl; done))
          try simp only [Act.put, List.setIfInBounds_toArray, List.set_cons_zero, List.set_cons_succ]
          -- ready: [7]
          refine pl_call (i := 7) (oi := { dst := some 37, op := Go.Op.call { callee := Go.Callee.value (Go.Operand.func 42), args := #[Go.Operand.tmp 33, Go.Operand.tmp 36], argTypes := #[24, 24] }, type := 4, pos := "ref.go:124", after := #[{ on := 3, ground := Go.Ground.data }, { on := 6, ground := Go.Ground.data }], guard := none }) (.bool false) rfl (by kernel_rfl) (by kernel_rfl) rfl (by exact (fun W hW => (Hcall.out W hW.2.2).mono fun e w' h => ⟨h.1, h.2.cell hW.1 (not_no _), h.2.cell hW.2.1 (not_no _), hW.2.2.trans h.2⟩)) (fun W => by kernel_rfl) ?_
          try simp only [Act.put, List.setIfInBounds_toArray, List.set_cons_zero, List.set_cons_succ]
          ((refine pl_yes (i := 8) (oi := { dst := some 38, op := Go.Op.unOp Go.UnOp.not 4 (Go.Operand.tmp 37), type := 4, pos := "ref.go:124", after := #[{ on := 7, ground := Go.Ground.data }], guard := none }) (v := ?_) rfl (by kernel_rfl) (by kernel_rfl) rfl ?_ ?_); rotate_left; focus (intro W hW; (try dsimp only at hW); go_split_ands; go_simp; (try (simp (disch := omega) only [IntWalk.i64_in]; (try go_simp))); (try (split; (next => omega); (try go_simp))); try rfl; done))
          try simp only [Act.put, List.setIfInBounds_toArray, List.set_cons_zero, List.set_cons_succ]
          -- ready: []
          refine pl_done (by kernel_rfl)  ?_
          rintro w2 ⟨_, _, hc2⟩
          have hc2 := hc.trans hc2
          go_wp2_with (first | (with_reducible refine stop_append ?_) | (with_reducible refine stop_copy ?_) | (with_reducible refine stop_make ?_) | (with_reducible refine stop_lookup ?_) | (with_reducible refine stop_update ?_) | (with_reducible refine stop_slice ?_) | (with_reducible refine stop_range ?_) | (with_reducible refine stop_next ?_) | (with_reducible refine stop_convert ⟨_, rfl⟩ ?_) | (with_reducible refine stop_convertB ⟨_, _, _, rfl⟩ ?_) | (with_reducible refine stop_eqSlice ⟨_, _, rfl⟩ ?_))
          go_ret2
          exact ⟨hc2, .inr ⟨Hr.out, rfl⟩⟩
        | true =>
          rw [hk] at Hcall
          have Hr := Lib.hid (Hgo.out hk)
          clear hk
          go_wp2_with (first | (with_reducible refine stop_append ?_) | (with_reducible refine stop_copy ?_) | (with_reducible refine stop_make ?_) | (with_reducible refine stop_lookup ?_) | (with_reducible refine stop_update ?_) | (with_reducible refine stop_slice ?_) | (with_reducible refine stop_range ?_) | (with_reducible refine stop_next ?_) | (with_reducible refine stop_convert ⟨_, rfl⟩ ?_) | (with_reducible refine stop_convertB ⟨_, _, _, rfl⟩ ?_) | (with_reducible refine stop_eqSlice ⟨_, _, rfl⟩ ?_))
          refine pl_start (fun W => W.cell? ⟨b, o + i, none⟩ = some (.slice Au row.length cu) ∧ W.cell? ⟨b, o, none⟩ = some (.slice A0 (headL l).length c0) ∧ Chg No wr W) (by kernel_rfl) (by kernel_rfl) ⟨ha0, hb0, (Chg.refl No wr).drew⟩ ?_
          ((refine pl_yes (i := 0) (oi := { dst := some 30, op := Go.Op.move (Go.Operand.tmp 0), type := 22, pos := "ref.go:124", after := #[], guard := none }) (v := ?_) rfl (by kernel_rfl) (by kernel_rfl) rfl ?_ ?_); rotate_left; focus (intro W hW; (try dsimp only at hW); go_split_ands; go_simp; (try (simp (disch := omega) only [IntWalk.i64_in]; (try go_simp))); (try (split; (next => omega); (try go_simp))); try rfl; done))
          try simp only [Act.put, List.setIfInBounds_toArray, List.set_cons_zero, List.set_cons_succ]
          ((refine pl_yes (i := 1) (oi := { dst := some 31, op := Go.Op.move (Go.Operand.tmp 6), type := 3, pos := "ref.go:124", after := #[], guard := none }) (v := ?_) rfl (by kernel_rfl) (by kernel_rfl) rfl ?_ ?_); rotate_left; focus (intro W hW; (try dsimp only at hW); go_split_ands; go_simp; (try (simp (disch := omega) only [IntWalk.i64_in]; (try go_simp))); (try (split; (next => omega); (try go_simp))); try rfl; done))
          try simp only [Act.put, List.setIfInBounds_toArray, List.set_cons_zero, List.set_cons_succ]
          ((refine pl_yes (i := 2) (oi := { dst := some 32, op := Go.Op.indexAddr 22 (Go.Operand.tmp 30) (Go.Operand.tmp 31), type := 0, pos := "ref.go:124", after := #[{ on := 0, ground := Go.Ground.data }, { on := 1, ground := Go.Ground.data }], guard := none }) (v := ?_) rfl (by kernel_rfl) (by kernel_rfl) rfl ?_ ?_); rotate_left; focus (intro W hW; (try dsimp only at hW); go_split_ands; go_simp; (try (simp (disch := omega) only [IntWalk.i64_in]; (try go_simp))); (try (split; (next => omega); (try go_simp))); try rfl; done))
          try simp only [Act.put, List.setIfInBounds_toArray, List.set_cons_zero, List.set_cons_succ]
          ((refine pl_yes (i := 3) (oi := { dst := some 33, op := Go.Op.load 24 (Go.Operand.tmp 32), type := 24, pos := "ref.go:124", after := #[{ on := 2, ground := Go.Ground.data }], guard := none }) (v := ?_) rfl (by kernel_rfl) (by kernel_rfl) rfl ?_ ?_); rotate_left; focus (intro W hW; (try dsimp only at hW); go_split_ands; go_simp; (try (simp (disch := omega) only [IntWalk.i64_in]; (try go_simp))); (try (split; (next => omega); (try go_simp))); try rfl; done))
          try simp only [Act.put, List.setIfInBounds_toArray, List.set_cons_zero, List.set_cons_succ]
          ((refine pl_yes (i := 4) (oi := { dst := some 34, op := Go.Op.move (Go.Operand.tmp 0), type := 22, pos := "ref.go:124", after := #[], guard := none }) (v := ?_) rfl (by kernel_rfl) (by kernel_rfl) rfl ?_ ?_); rotate_left; focus (intro W hW; (try dsimp only at hW); go_split_ands; go_simp; (try (simp (disch := omega) only [IntWalk.i64_in]; (try go_simp))); (try (split; (next => omega); (try go_simp))); try rfl; done))
          try simp only [Act.put, List.setIfInBounds_toArray, List.set_cons_zero, List.set_cons_succ]
          ((refine pl_yes (i := 5) (oi := { dst := some 35, op := Go.Op.indexAddr 22 (Go.Operand.tmp 34) (Go.Operand.const (Go.Value.int Go.IntKind.i64 0)), type := 0, pos := "ref.go:124", after := #[{ on := 4, ground := Go.Ground.data }], guard := none }) (v := ?_) rfl (by kernel_rfl) (by kernel_rfl) rfl ?_ ?_); rotate_left; focus (intro W hW; (try dsimp only at hW); go_split_ands; go_simp; (try (simp (disch := omega) only [IntWalk.i64_in]; (try go_simp))); (try (split; (next => omega); (try go_simp))); try rfl; done))
          try simp only [Act.put, List.setIfInBounds_toArray, List.set_cons_zero, List.set_cons_succ]
          ((refine pl_yes (i := 6) (oi := { dst := some 36, op := Go.Op.load 24 (Go.Operand.tmp 35), type := 24, pos := "ref.go:124", after := #[{ on := 5, ground := Go.Ground.data }], guard := none }) (v := ?_) rfl (by kernel_rfl) (by kernel_rfl) rfl ?_ ?_); rotate_left; focus (intro W hW; (try dsimp only at hW); go_split_ands; go_simp; (try (simp (disch := omega) only [IntWalk.i64_in]; (try go_simp))); (try (split; (next => omega); (try go_simp))); try rfl; done))
          try simp only [Act.put, List.setIfInBounds_toArray, List.set_cons_zero, List.set_cons_succ]
          -- ready: [7]
          refine pl_call (i := 7) (oi := { dst := some 37, op := Go.Op.call { callee := Go.Callee.value (Go.Operand.func 42), args := #[Go.Operand.tmp 33, Go.Operand.tmp 36], argTypes := #[24, 24] }, type := 4, pos := "ref.go:124", after := #[{ on := 3, ground := Go.Ground.data }, { on := 6, ground := Go.Ground.data }], guard := none }) (.bool true) rfl (by kernel_rfl) (by kernel_rfl) rfl (by exact (fun W hW => (Hcall.out W hW.2.2).mono fun e w' h => ⟨h.1, h.2.cell hW.1 (not_no _), h.2.cell hW.2.1 (not_no _), hW.2.2.trans h.2⟩)) (fun W => by kernel_rfl) ?_
          try simp only [Act.put, List.setIfInBounds_toArray, List.set_cons_zero, List.set_cons_succ]
          ((refine pl_yes (i := 8) (oi := { dst := some 38, op := Go.Op.unOp Go.UnOp.not 4 (Go.Operand.tmp 37), type := 4, pos := "ref.go:124", after := #[{ on := 7, ground := Go.Ground.data }], guard := none }) (v := ?_) rfl (by kernel_rfl) (by kernel_rfl) rfl ?_ ?_); rotate_left; focus (intro W hW; (try dsimp only at hW); go_split_ands; go_simp; (try (simp (disch := omega) only [IntWalk.i64_in]; (try go_simp))); (try (split; (next => omega); (try go_simp))); try rfl; done))
          try simp only [Act.put, List.setIfInBounds_toArray, List.set_cons_zero, List.set_cons_succ]
          -- ready: []
          refine pl_done (by kernel_rfl)  ?_
          rintro w2 ⟨_, _, hc2⟩
          have hc2 := hc.trans hc2
          go_wp2_with (first | (with_reducible refine stop_append ?_) | (with_reducible refine stop_copy ?_) | (with_reducible refine stop_make ?_) | (with_reducible refine stop_lookup ?_) | (with_reducible refine stop_update ?_) | (with_reducible refine stop_slice ?_) | (with_reducible refine stop_range ?_) | (with_reducible refine stop_next ?_) | (with_reducible refine stop_convert ⟨_, rfl⟩ ?_) | (with_reducible refine stop_convertB ⟨_, _, _, rfl⟩ ?_) | (with_reducible refine stop_eqSlice ⟨_, _, rfl⟩ ?_))
          go_roundw
          case rel => exact ⟨i + 1, by omega, by go_num, hc2, Hr.out⟩
          case measure => simp [intOf]; omega
      · obtain rfl : i = l.length := by omega
        have hbad : quorBad l = false := List.any_eq_false.2 (fun x hx => by
          obtain ⟨j, hj, rfl⟩ := List.mem_iff_getElem.1 hx
          simp [Hall.out j hj hj])
        have Hbad := Lib.hid hbad
        have Hr := Lib.hid (quor_yes h0 hbad (need := (nd : Int)) (by omega))
        have hhl : (headL l).length ≤ 8 := (vright_iff.1 (kind_iff.1 (quor_kind hbad (head_mem h0))).1).2.1
        have hkl : ∀ k, k < (headL l).length → ∀ x ∈ l, k < x.length := fun k hk x hx => by
          have := (kind_iff.1 (quor_kind hbad hx)).2.2
          omega
        have Hkl := Lib.hid hkl
        have Htk := Lib.hid (fun k (hk : k < (headL l).length) => best_quor h0 hbad h1 h2 k hk)
        rw [Int.toNat_natCast] at Hr
        have Hql := Lib.hid (quor_len l nd)
        clear hbad hkl
        generalize quorL l nd = q at *
        go_wp2_with (first | (with_reducible refine stop_append ?_) | (with_reducible refine stop_copy ?_) | (with_reducible refine stop_make ?_) | (with_reducible refine stop_lookup ?_) | (with_reducible refine stop_update ?_) | (with_reducible refine stop_slice ?_) | (with_reducible refine stop_range ?_) | (with_reducible refine stop_next ?_) | (with_reducible refine stop_convert ⟨_, rfl⟩ ?_) | (with_reducible refine stop_convertB ⟨_, _, _, rfl⟩ ?_) | (with_reducible refine stop_eqSlice ⟨_, _, rfl⟩ ?_))
        go_loopw [7, 8, 9, 10] (fun v7 v8 _ _ wr => ∃ k : Nat, k ≤ (headL l).length ∧ v8 = .int .i64 k ∧ Chg No w wr ∧ Cb.Own No wr w.heap.size 3 v7 (q.take k)) (fun _ v8 _ _ _ => (headL l).length - (intOf v8).toNat)
        case atStart => exact ⟨0, by omega, rfl, hc, Cb.Own.nil _ _ _ _⟩
        case round =>
          clear hc
          obtain ⟨k, hk, rfl, hc, hown⟩ := hrel
          have Hown := Lib.hid hown
          have hqk : (q.take k).length = k := by have := Hql.out; rw [List.length_take]; omega
          obtain ⟨A7, c7, e7⟩ := hown.slice
          rw [hqk] at e7
          subst e7
          clear hown
          obtain ⟨u0, _, hbl, hb0, hu0⟩ := rows_at (Hs.out _ hc) 0 h0
          simp only [Nat.add_zero] at hb0
          rw [← Hh.out] at hu0
          obtain ⟨A0, c0, rfl⟩ := hu0.slice
          clear hu0
          by_cases hklt : k < (headL l).length
          · have htk := Htk.out k hklt
            have hbs : ∀ i (h : i < l.length), bestF (column l k) nd (i + 1) = bestS (column l k) nd (bestF (column l k) nd i) (l[i].getD k 0) := fun i h => by
              have hci : i < (column l k).length := by simpa [column] using h
              have e : (column l k)[i] = l[i].getD k 0 := by simp [column]
              rw [best_succ (column l k) nd i hci, e]
            have hcnt := fun x W (hW : Chg No w W) => rhave_any _ (.slice (some ⟨b, o, none⟩) l.length c) l k x W (Hs.out W hW) hll (Hkl.out k hklt)
            generalize column l k = col at *
            have Hbs := Lib.hid hbs
            have Hcnt := Lib.hid hcnt
            clear hbs hcnt
            have Htk1 := Lib.hid htk
            clear htk
            go_wp2_with (first | (with_reducible refine stop_append ?_) | (with_reducible refine stop_copy ?_) | (with_reducible refine stop_make ?_) | (with_reducible refine stop_lookup ?_) | (with_reducible refine stop_update ?_) | (with_reducible refine stop_slice ?_) | (with_reducible refine stop_range ?_) | (with_reducible refine stop_next ?_) | (with_reducible refine stop_convert ⟨_, rfl⟩ ?_) | (with_reducible refine stop_convertB ⟨_, _, _, rfl⟩ ?_) | (with_reducible refine stop_eqSlice ⟨_, _, rfl⟩ ?_))
            go_loopw [9, 10] (fun v9 v10 wr => ∃ i : Nat, i ≤ l.length ∧ v10 = .int .i64 i ∧ v9 = .int .i64 (bestF col nd i) ∧ Chg No w wr ∧ Cb.Own No wr w.heap.size 3 (.slice A7 k c7) (q.take k)) (fun _ v10 _ => l.length - (intOf v10).toNat)
            case atStart => exact ⟨0, by omega, rfl, by simp [bestF], hc, Hown.out⟩
            case round =>
              clear hc Hown hb0
              obtain ⟨i, hi, rfl, rfl, hc, hown⟩ := hrel
              have Hown := Lib.hid hown
              clear hown
              by_cases hlt : i < l.length
              · obtain ⟨u, _, hbl, ha0, hu⟩ := rows_at (Hs.out _ hc) i hlt
                obtain ⟨b2, o2, cu, rfl, _, hbl2, hx0⟩ := num_at hu k (Hkl.out k hklt _ (List.getElem_mem hlt))
                have hkr := Hkl.out k hklt _ (List.getElem_mem hlt)
                have hbs := Hbs.out i hlt
                clear hu
                generalize l[i] = row at *
                generalize row.getD k 0 = x at *
                have hkr2 : (k : Int) < row.length := by omega
                have Hcall := Lib.hid (Hcnt.out x _ hc)
                unfold bestS at hbs
                have hcase : (bestF col nd i < x ∧ nd ≤ cntF col x ∧ bestF col nd (i + 1) = x) ∨ (bestF col nd i < x ∧ ¬ nd ≤ cntF col x ∧ bestF col nd (i + 1) = bestF col nd i) ∨ (¬ bestF col nd i < x ∧ bestF col nd (i + 1) = bestF col nd i) := by
                  by_cases e1 : bestF col nd i < x
                  · by_cases e2 : nd ≤ cntF col x
                    · exact .inl ⟨e1, e2, by rw [hbs, if_pos ⟨e1, e2⟩]⟩
                    · exact .inr (.inl ⟨e1, e2, by rw [hbs, if_neg (fun h => e2 h.2)]⟩)
                  · exact .inr (.inr ⟨e1, by rw [hbs, if_neg (fun h => e1 h.1)]⟩)
                clear hbs
                generalize bestF col nd i = best at *
                generalize cntF col x = m at *
                rcases hcase with ⟨e1, e2, e3⟩ | ⟨e1, e2, e3⟩ | ⟨e1, e3⟩
                · have E3 := Lib.hid e3
                  clear e3
                  go_wp2_with (first | (with_reducible refine stop_append ?_) | (with_reducible refine stop_copy ?_) | (with_reducible refine stop_make ?_) | (with_reducible refine stop_lookup ?_) | (with_reducible refine stop_update ?_) | (with_reducible refine stop_slice ?_) | (with_reducible refine stop_range ?_) | (with_reducible refine stop_next ?_) | (with_reducible refine stop_convert ⟨_, rfl⟩ ?_) | (with_reducible refine stop_convertB ⟨_, _, _, rfl⟩ ?_) | (with_reducible refine stop_eqSlice ⟨_, _, rfl⟩ ?_))
                  refine Hcall.out.mono ?_
                  rintro e w5 ⟨rfl, hc5⟩
                  have ha5 := hc5.cell ha0 (not_no _)
                  have hx5 := hc5.cell hx0 (not_no _)
                  have hown5 := Lib.hid (Hown.out.keepFlat hc5 (fun _ _ f => f))
                  have hc5 := hc.trans hc5
                  clear ha0 hx0
                  go_wp2_with (first | (with_reducible refine stop_append ?_) | (with_reducible refine stop_copy ?_) | (with_reducible refine stop_make ?_) | (with_reducible refine stop_lookup ?_) | (with_reducible refine stop_update ?_) | (with_reducible refine stop_slice ?_) | (with_reducible refine stop_range ?_) | (with_reducible refine stop_next ?_) | (with_reducible refine stop_convert ⟨_, rfl⟩ ?_) | (with_reducible refine stop_convertB ⟨_, _, _, rfl⟩ ?_) | (with_reducible refine stop_eqSlice ⟨_, _, rfl⟩ ?_))
                  go_roundw
                  case rel => exact ⟨i + 1, by omega, by go_num, by rw [E3.out], hc5, hown5.out⟩
                  case measure => simp [intOf]; omega
                · have E3 := Lib.hid e3
                  clear e3
                  go_wp2_with (first | (with_reducible refine stop_append ?_) | (with_reducible refine stop_copy ?_) | (with_reducible refine stop_make ?_) | (with_reducible refine stop_lookup ?_) | (with_reducible refine stop_update ?_) | (with_reducible refine stop_slice ?_) | (with_reducible refine stop_range ?_) | (with_reducible refine stop_next ?_) | (with_reducible refine stop_convert ⟨_, rfl⟩ ?_) | (with_reducible refine stop_convertB ⟨_, _, _, rfl⟩ ?_) | (with_reducible refine stop_eqSlice ⟨_, _, rfl⟩ ?_))
                  refine Hcall.out.mono ?_
                  rintro e w5 ⟨rfl, hc5⟩
                  have hown5 := Lib.hid (Hown.out.keepFlat hc5 (fun _ _ f => f))
                  have hc5 := hc.trans hc5
                  clear ha0 hx0
                  go_wp2_with (first | (with_reducible refine stop_append ?_) | (with_reducible refine stop_copy ?_) | (with_reducible refine stop_make ?_) | (with_reducible refine stop_lookup ?_) | (with_reducible refine stop_update ?_) | (with_reducible refine stop_slice ?_) | (with_reducible refine stop_range ?_) | (with_reducible refine stop_next ?_) | (with_reducible refine stop_convert ⟨_, rfl⟩ ?_) | (with_reducible refine stop_convertB ⟨_, _, _, rfl⟩ ?_) | (with_reducible refine stop_eqSlice ⟨_, _, rfl⟩ ?_))
                  go_roundw
                  case rel => exact ⟨i + 1, by omega, by go_num, by rw [E3.out], hc5, hown5.out⟩
                  case measure => simp [intOf]; omega
                · have E3 := Lib.hid e3
                  clear e3
                  go_wp2_with (first | (with_reducible refine stop_append ?_) | (with_reducible refine stop_copy ?_) | (with_reducible refine stop_make ?_) | (with_reducible refine stop_lookup ?_) | (with_reducible refine stop_update ?_) | (with_reducible refine stop_slice ?_) | (with_reducible refine stop_range ?_) | (with_reducible refine stop_next ?_) | (with_reducible refine stop_convert ⟨_, rfl⟩ ?_) | (with_reducible refine stop_convertB ⟨_, _, _, rfl⟩ ?_) | (with_reducible refine stop_eqSlice ⟨_, _, rfl⟩ ?_))
                  go_roundw
                  case rel => exact ⟨i + 1, by omega, by go_num, by rw [E3.out], hc, Hown.out⟩
                  case measure => simp [intOf]; omega
              · obtain rfl : i = l.length := by omega
                generalize bestF col nd l.length = best at *
                go_wp2_with (first | (with_reducible refine stop_append ?_) | (with_reducible refine stop_copy ?_) | (with_reducible refine stop_make ?_) | (with_reducible refine stop_lookup ?_) | (with_reducible refine stop_update ?_) | (with_reducible refine stop_slice ?_) | (with_reducible refine stop_range ?_) | (with_reducible refine stop_next ?_) | (with_reducible refine stop_convert ⟨_, rfl⟩ ?_) | (with_reducible refine stop_convertB ⟨_, _, _, rfl⟩ ?_) | (with_reducible refine stop_eqSlice ⟨_, _, rfl⟩ ?_))
                refine step_append_flat (α := Int) (ys := [best]) Try.underlying24 vinfo_int rfl (Hown.out.alloc (.cells #[.int .i64 best] 3)) rfl rfl (Sl.lit1 (F := No) (y := best) rfl rfl (not_no _)) (by rw [hqk]; simp; omega) (by rw [hqk]; simp; omega) (by have := hc.size; simp; omega) ?_
                intro v9 w9 hown9 hg9
                have hc9 : Chg No w w9 := (hc.alloc (.cells #[.int .i64 best] 3)).grew hg9 (fun i hi => .inr (Hown.out.lt i hi).1)
                rw [← Htk1.out] at hown9
                have Hown9 := Lib.hid hown9
                clear hown9 hg9
                go_wp2_with (first | (with_reducible refine stop_append ?_) | (with_reducible refine stop_copy ?_) | (with_reducible refine stop_make ?_) | (with_reducible refine stop_lookup ?_) | (with_reducible refine stop_update ?_) | (with_reducible refine stop_slice ?_) | (with_reducible refine stop_range ?_) | (with_reducible refine stop_next ?_) | (with_reducible refine stop_convert ⟨_, rfl⟩ ?_) | (with_reducible refine stop_convertB ⟨_, _, _, rfl⟩ ?_) | (with_reducible refine stop_eqSlice ⟨_, _, rfl⟩ ?_))
                go_roundw
                case rel => exact ⟨k + 1, by omega, by go_num, hc9, Hown9.out⟩
                case measure => simp [intOf]; omega
          · obtain rfl : k = (headL l).length := by omega
            rw [List.take_of_length_le (by have := Hql.out; omega)] at Hown
            have hq := Hql.out
            go_wp2_with (first | (with_reducible refine stop_append ?_) | (with_reducible refine stop_copy ?_) | (with_reducible refine stop_make ?_) | (with_reducible refine stop_lookup ?_) | (with_reducible refine stop_update ?_) | (with_reducible refine stop_slice ?_) | (with_reducible refine stop_range ?_) | (with_reducible refine stop_next ?_) | (with_reducible refine stop_convert ⟨_, rfl⟩ ?_) | (with_reducible refine stop_convertB ⟨_, _, _, rfl⟩ ?_) | (with_reducible refine stop_eqSlice ⟨_, _, rfl⟩ ?_))
            go_ret2
            exact ⟨hc, .inl ⟨_, Hr.out, _, rfl, Hown.out.slFlat (G := Lt w.heap.size) (fun i hi f => by have := (Hown.out.lt i hi).1; simp only [Lt] at f; omega)⟩⟩
end Go.Proofs.Ytlpnbbjmcmjkpaa

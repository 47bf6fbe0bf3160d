/- The statement ObjectFolds, walked. -/
import Derived.Test.YtnioljagmimojaaLawY
set_option linter.unusedVariables false
set_option linter.unusedSimpArgs false
namespace Go.Proofs.Ytnioljagmimojaa
open Go.RowKit Cb

set_option maxRecDepth 100000 in
set_option maxHeartbeats 1000000 in
theorem folds_few (F : Nat → Prop) (v : Value) (xs : List ByteArray) (fd : Int) (w : World) (h : Sl F w v xs) (hl : xs.length ≤ 140737488351232) (hb : ∀ x ∈ xs, x.size ≤ 140737488351232) (hn : fewB xs = false) :
    Calls Try.prog 7 #[v, .int .i64 fd] w fun e w' => e = .returned (.bool true) ∧ Chg No w w' := by
  have hfew : ∀ W, Chg No w W → Calls Try.prog 22 #[v] W fun e w' => e = .returned (.bool false) ∧ Chg No W w' := fun W hW => by rw [← hn]; exact few_any F v xs W (h.keepNo hW) hl hb
  have H := Lib.hid hfew
  obtain ⟨A, c, rfl⟩ := h.slice
  clear hfew h
  go_enter Try.func7, Try.ntmps7
  go_wp2_with (first | (with_reducible refine stop_append ?_) | (with_reducible refine stop_copy ?_) | (with_reducible refine stop_make ?_) | (with_reducible refine stop_lookup ?_) | (with_reducible refine stop_update ?_) | (with_reducible refine stop_slice ?_) | (with_reducible refine stop_range ?_) | (with_reducible refine stop_next ?_) | (with_reducible refine stop_convert ⟨_, rfl⟩ ?_) | (with_reducible refine stop_convertB ⟨_, _, _, rfl⟩ ?_) | (with_reducible refine stop_eqSlice ⟨_, _, rfl⟩ ?_))
  refine (new_any _).mono ?_
  rintro e w1 ⟨p, rc, ri, rfl, h1, hc1, hge⟩
  clear h1 hge
  go_wp2_with (first | (with_reducible refine stop_append ?_) | (with_reducible refine stop_copy ?_) | (with_reducible refine stop_make ?_) | (with_reducible refine stop_lookup ?_) | (with_reducible refine stop_update ?_) | (with_reducible refine stop_slice ?_) | (with_reducible refine stop_range ?_) | (with_reducible refine stop_next ?_) | (with_reducible refine stop_convert ⟨_, rfl⟩ ?_) | (with_reducible refine stop_convertB ⟨_, _, _, rfl⟩ ?_) | (with_reducible refine stop_eqSlice ⟨_, _, rfl⟩ ?_))
  refine (H.out _ hc1).mono ?_
  rintro e w2 ⟨rfl, hc2⟩
  go_wp2_with (first | (with_reducible refine stop_append ?_) | (with_reducible refine stop_copy ?_) | (with_reducible refine stop_make ?_) | (with_reducible refine stop_lookup ?_) | (with_reducible refine stop_update ?_) | (with_reducible refine stop_slice ?_) | (with_reducible refine stop_range ?_) | (with_reducible refine stop_next ?_) | (with_reducible refine stop_convert ⟨_, rfl⟩ ?_) | (with_reducible refine stop_convertB ⟨_, _, _, rfl⟩ ?_) | (with_reducible refine stop_eqSlice ⟨_, _, rfl⟩ ?_))
  refine (alive_any _).mono ?_
  rintro e w3 ⟨rfl, hc3⟩
  have hcw := (hc1.trans hc2).trans hc3
  go_wp2_with (first | (with_reducible refine stop_append ?_) | (with_reducible refine stop_copy ?_) | (with_reducible refine stop_make ?_) | (with_reducible refine stop_lookup ?_) | (with_reducible refine stop_update ?_) | (with_reducible refine stop_slice ?_) | (with_reducible refine stop_range ?_) | (with_reducible refine stop_next ?_) | (with_reducible refine stop_convert ⟨_, rfl⟩ ?_) | (with_reducible refine stop_convertB ⟨_, _, _, rfl⟩ ?_) | (with_reducible refine stop_eqSlice ⟨_, _, rfl⟩ ?_))
  go_ret
  exact ⟨rfl, hcw⟩
set_option maxRecDepth 100000 in
set_option maxHeartbeats 4000000 in
theorem folds_main (F : Nat → Prop) (v : Value) (xs : List ByteArray) (fd : Int) (w : World) (h : Sl F w v xs) (hfb : fewB xs = true) :
    Calls Try.prog 7 #[v, .int .i64 fd] w fun e w' => e = .returned (.bool true) ∧ Chg No w w' := by
  obtain ⟨hx40, hxs⟩ := fewB_yes hfb
  have hfew : ∀ W, Chg No w W → Calls Try.prog 22 #[v] W fun e w' => e = .returned (.bool true) ∧ Chg No W w' := fun W hW => by
    rw [← hfb]; exact few_any F v xs W (h.keepNo hW) (by omega) (fun x hx => by have := sizes_mem hx; omega)
  have hfo : ∀ W, Chg No w W → Calls Try.prog 29 #[v] W _ := fun W hW => fold_any F v xs W (h.keepNo hW) hx40
  have Hfew := Lib.hid hfew; have Hfo := Lib.hid hfo
  obtain ⟨A, c, rfl⟩ := h.slice
  have H := Lib.hid h
  clear hfew h hfb hfo
  go_enter Try.func7, Try.ntmps7
  go_wp2_with (first | (with_reducible refine stop_append ?_) | (with_reducible refine stop_copy ?_) | (with_reducible refine stop_make ?_) | (with_reducible refine stop_lookup ?_) | (with_reducible refine stop_update ?_) | (with_reducible refine stop_slice ?_) | (with_reducible refine stop_range ?_) | (with_reducible refine stop_next ?_) | (with_reducible refine stop_convert ⟨_, rfl⟩ ?_) | (with_reducible refine stop_convertB ⟨_, _, _, rfl⟩ ?_) | (with_reducible refine stop_eqSlice ⟨_, _, rfl⟩ ?_))
  refine (new_any _).mono ?_
  rintro e w1 ⟨p, rc, ri, rfl, h1, hc1, hge⟩
  have H1 := Lib.hid h1
  clear h1
  go_wp2_with (first | (with_reducible refine stop_append ?_) | (with_reducible refine stop_copy ?_) | (with_reducible refine stop_make ?_) | (with_reducible refine stop_lookup ?_) | (with_reducible refine stop_update ?_) | (with_reducible refine stop_slice ?_) | (with_reducible refine stop_range ?_) | (with_reducible refine stop_next ?_) | (with_reducible refine stop_convert ⟨_, rfl⟩ ?_) | (with_reducible refine stop_convertB ⟨_, _, _, rfl⟩ ?_) | (with_reducible refine stop_eqSlice ⟨_, _, rfl⟩ ?_))
  refine (Hfew.out _ hc1).mono ?_
  rintro e w2 ⟨rfl, hc2⟩
  have hc02 := hc1.trans hc2
  have H2 := Lib.hid (H1.out.keepNo hc2)
  clear hc1 hc2 H1
  go_wp2_with (first | (with_reducible refine stop_append ?_) | (with_reducible refine stop_copy ?_) | (with_reducible refine stop_make ?_) | (with_reducible refine stop_lookup ?_) | (with_reducible refine stop_update ?_) | (with_reducible refine stop_slice ?_) | (with_reducible refine stop_range ?_) | (with_reducible refine stop_next ?_) | (with_reducible refine stop_convert ⟨_, rfl⟩ ?_) | (with_reducible refine stop_convertB ⟨_, _, _, rfl⟩ ?_) | (with_reducible refine stop_eqSlice ⟨_, _, rfl⟩ ?_))
  refine (Hfo.out w2 hc02).mono ?_
  rintro e w3 ⟨vl, vo, rfl, hc3, hvl, hvo⟩
  have hvl := hvl.weak (G := Sf p rc ri) (fun b _ hb => H2.out.lt b hb)
  have hvo := hvo.weak (G := Sf p rc ri) (fun b _ hb => H2.out.lt b hb)
  obtain ⟨hrl, hat⟩ := fold_all (xs := xs) xs.length (Nat.le_refl _)
  rw [List.take_length] at hrl
  have hol := foldK_out xs xs.length
  have hll := (foldK_ok xs xs.length).2
  obtain ⟨L, hL⟩ : ∃ l, l = (foldK xs xs.length).1 := ⟨_, rfl⟩
  obtain ⟨O, hO⟩ : ∃ l, l = (foldK xs xs.length).2 := ⟨_, rfl⟩
  rw [← hL] at hvl hrl hll
  rw [← hO] at hvo hat hol
  clear hL hO
  have H3 := Lib.hid (H2.out.keepNo hc3)
  have hc03 := hc02.trans hc3
  have Hvl := Lib.hid hvl; have Hvo := Lib.hid hvo; have Hrl := Lib.hid hrl; have Hat := Lib.hid hat
  obtain ⟨AO, cO, eO⟩ := hvo.slice
  obtain ⟨AL, cL, eL⟩ := hvl.slice
  rw [hol] at eO
  subst eO eL
  clear hvl hvo hrl hat H2 hc02 hc3
  go_wp2_with (first | (with_reducible refine stop_append ?_) | (with_reducible refine stop_copy ?_) | (with_reducible refine stop_make ?_) | (with_reducible refine stop_lookup ?_) | (with_reducible refine stop_update ?_) | (with_reducible refine stop_slice ?_) | (with_reducible refine stop_range ?_) | (with_reducible refine stop_next ?_) | (with_reducible refine stop_convert ⟨_, rfl⟩ ?_) | (with_reducible refine stop_convertB ⟨_, _, _, rfl⟩ ?_) | (with_reducible refine stop_eqSlice ⟨_, _, rfl⟩ ?_))
  go_loopw [8, 47] (fun v8 v47 wr => ∃ (k : Nat), k ≤ xs.length ∧ v47 = .int .i64 k ∧ v8 = .int .i64 (addAll s0 (xs.take k)).n ∧ Sto wr p rc ri (addAll s0 (xs.take k)) ∧ Chg (Sf p rc ri) w3 wr) (fun _ v47 _ => xs.length - (intOf v47).toNat)
  case atStart => exact ⟨0, by omega, rfl, rfl, H3.out, Chg.refl _ _⟩
  case round =>
    obtain ⟨k, hk, rfl, rfl, hs, hcr⟩ := hrel
    clear H3
    have Hs := Lib.hid hs; clear hs
    have hcw := hc03.old hcr hge
    by_cases hlt : k < xs.length
    · obtain ⟨b, o, d, rfl, _, hbl, rfl, ha⟩ := (H.out.keepNo hcw).get k hlt
      have ha0 := ha 0 _ rfl
      simp only [show Rep.n ByteArray = 1 from rfl, Nat.mul_one, Nat.add_zero] at ha0
      have hok : k < O.length := by omega
      have hgo : Sl (Sf p rc ri) wr (.slice AO xs.length cO) O := (Hvo.out).keep hcr
      obtain ⟨b2, o2, d2, rfl, hnb2, hbl2, rfl, hb⟩ := hgo.get k hok
      have hb0 := hb 0 _ rfl
      simp only [show Rep.n Int = 1 from rfl, Nat.mul_one, Nat.add_zero] at hb0
      have hOk := Hat.out k hlt hlt
      rw [List.getElem?_eq_getElem hok] at hOk
      have hOk := Option.some.inj hOk
      have hbd := (addAll_bd xs k hk).le (C := 1000) (by omega)
      have hsz := sizes_mem (List.getElem_mem hlt)
      have hsn := addAll_snoc s0 xs k hlt
      clear ha hb hgo
      generalize O[k] = ov at hb0 hOk
      generalize xs[k] = x at ha0 hsn hsz hOk
      generalize addAll s0 (xs.take k) = s at Hs hsn hbd hOk ⊢
      have hn0 := hbd.2.1
      have hn1 := hbd.2.2
      have hbd := hbd.le (C := 1000000000) (by omega)
      have hcases : (ov = 0 ∧ (addD s x).2 = false ∧ (addD s x).1.n = s.n) ∨ (ov = 1 ∧ (addD s x).2 = true ∧ (addD s x).1.n = s.n) ∨ (ov = 2 ∧ (addD s x).2 = true ∧ (addD s x).1.n = s.n + 1) := by
        rw [hOk]
        rcases oS_cases s x with ⟨h1, h2⟩ | ⟨h1, t, _, h2⟩ | ⟨h1, t, _, h2⟩
        · exact .inl ⟨h1, by rw [h2], by rw [h2]⟩
        · exact .inr (.inl ⟨h1, by rw [h2], by rw [h2]⟩)
        · exact .inr (.inr ⟨h1, by rw [h2], by rw [h2]⟩)
      have ad := add_any p rc ri s x
      have Ad := Lib.hid ad; have Hbd := Lib.hid hbd; have Hsn := Lib.hid hsn
      clear ad hbd hsn hOk
      have cd := (Chg.refl No wr).drew
      rcases hcases with ⟨rfl, hr, hn⟩ | ⟨rfl, hr, hn⟩ | ⟨rfl, hr, hn⟩
      · have Hr := Lib.hid hr; have Hn := Lib.hid hn
        clear hr hn
        go_wp2_with (first | (with_reducible refine stop_append ?_) | (with_reducible refine stop_copy ?_) | (with_reducible refine stop_make ?_) | (with_reducible refine stop_lookup ?_) | (with_reducible refine stop_update ?_) | (with_reducible refine stop_slice ?_) | (with_reducible refine stop_range ?_) | (with_reducible refine stop_next ?_) | (with_reducible refine stop_convert ⟨_, rfl⟩ ?_) | (with_reducible refine stop_convertB ⟨_, _, _, rfl⟩ ?_) | (with_reducible refine stop_eqSlice ⟨_, _, rfl⟩ ?_))
        refine reg_start (fun W => W.cell? ⟨b2, o2 + k, none⟩ = some (.int .i64 0)) (by kernel_rfl) ?_
        ((refine reg_yes (i := 0) (oi := { dst := some 52, op := Go.Op.move (Go.Operand.tmp 5), type := 46, pos := "law.go:80", after := #[], guard := none }) (v := ?_) rfl (by kernel_rfl) (by kernel_rfl) (by kernel_rfl) (fun _ _ _ h => h) rfl ?_ ?_); rotate_left; focus (intro W hW; (try dsimp only at hW); go_split_ands; go_simp; (try (simp (disch := omega) only [IntWalk.i64_in]; (try go_simp))); (try (split; (next => omega); (try go_simp))); try rfl; done))
        try simp only [Act.put, List.setIfInBounds_toArray, List.set_cons_zero, List.set_cons_succ]
        ((refine reg_yes (i := 1) (oi := { dst := some 53, op := Go.Op.move (Go.Operand.tmp 10), type := 9, pos := "law.go:80", after := #[], guard := none }) (v := ?_) rfl (by kernel_rfl) (by kernel_rfl) (by kernel_rfl) (fun _ _ _ h => h) rfl ?_ ?_); rotate_left; focus (intro W hW; (try dsimp only at hW); go_split_ands; go_simp; (try (simp (disch := omega) only [IntWalk.i64_in]; (try go_simp))); (try (split; (next => omega); (try go_simp))); try rfl; done))
        try simp only [Act.put, List.setIfInBounds_toArray, List.set_cons_zero, List.set_cons_succ]
        ((refine reg_yes (i := 3) (oi := { dst := some 55, op := Go.Op.move (Go.Operand.tmp 7), type := 50, pos := "law.go:80", after := #[], guard := none }) (v := ?_) rfl (by kernel_rfl) (by kernel_rfl) (by kernel_rfl) (fun _ _ _ h => h) rfl ?_ ?_); rotate_left; focus (intro W hW; (try dsimp only at hW); go_split_ands; go_simp; (try (simp (disch := omega) only [IntWalk.i64_in]; (try go_simp))); (try (split; (next => omega); (try go_simp))); try rfl; done))
        try simp only [Act.put, List.setIfInBounds_toArray, List.set_cons_zero, List.set_cons_succ]
        ((refine reg_yes (i := 4) (oi := { dst := some 56, op := Go.Op.move (Go.Operand.tmp 9), type := 3, pos := "law.go:80", after := #[], guard := none }) (v := ?_) rfl (by kernel_rfl) (by kernel_rfl) (by kernel_rfl) (fun _ _ _ h => h) rfl ?_ ?_); rotate_left; focus (intro W hW; (try dsimp only at hW); go_split_ands; go_simp; (try (simp (disch := omega) only [IntWalk.i64_in]; (try go_simp))); (try (split; (next => omega); (try go_simp))); try rfl; done))
        try simp only [Act.put, List.setIfInBounds_toArray, List.set_cons_zero, List.set_cons_succ]
        ((refine reg_yes (i := 5) (oi := { dst := some 57, op := Go.Op.indexAddr 50 (Go.Operand.tmp 55) (Go.Operand.tmp 56), type := 0, pos := "law.go:80", after := #[{ on := 3, ground := Go.Ground.data }, { on := 4, ground := Go.Ground.data }], guard := none }) (v := ?_) rfl (by kernel_rfl) (by kernel_rfl) (by kernel_rfl) (fun _ _ _ h => h) rfl ?_ ?_); rotate_left; focus (intro W hW; (try dsimp only at hW); go_split_ands; go_simp; (try (simp (disch := omega) only [IntWalk.i64_in]; (try go_simp))); (try (split; (next => omega); (try go_simp))); try rfl; done))
        try simp only [Act.put, List.setIfInBounds_toArray, List.set_cons_zero, List.set_cons_succ]
        ((refine reg_yes (i := 6) (oi := { dst := some 58, op := Go.Op.load 3 (Go.Operand.tmp 57), type := 3, pos := "law.go:80", after := #[{ on := 5, ground := Go.Ground.data }], guard := none }) (v := ?_) rfl (by kernel_rfl) (by kernel_rfl) (by kernel_rfl) (fun _ _ _ h => h) rfl ?_ ?_); rotate_left; focus (intro W hW; (try dsimp only at hW); go_split_ands; go_simp; (try (simp (disch := omega) only [IntWalk.i64_in]; (try go_simp))); (try (split; (next => omega); (try go_simp))); try rfl; done))
        try simp only [Act.put, List.setIfInBounds_toArray, List.set_cons_zero, List.set_cons_succ]
        ((refine reg_yes (i := 7) (oi := { dst := some 59, op := Go.Op.binOp Go.BinOp.gtr 3 (Go.Operand.tmp 58) (Go.Operand.const (Go.Value.int Go.IntKind.i64 0)) 3, type := 4, pos := "law.go:80", after := #[{ on := 6, ground := Go.Ground.data }], guard := none }) (v := ?_) rfl (by kernel_rfl) (by kernel_rfl) (by kernel_rfl) (fun _ _ _ h => h) rfl ?_ ?_); rotate_left; focus (intro W hW; (try dsimp only at hW); go_split_ands; go_simp; (try (simp (disch := omega) only [IntWalk.i64_in]; (try go_simp))); (try (split; (next => omega); (try go_simp))); try rfl; done))
        try simp only [Act.put, List.setIfInBounds_toArray, List.set_cons_zero, List.set_cons_succ]
        -- ready: [2]
        refine reg_k (fun W => W.cell? ⟨b2, o2 + k, none⟩ = some (.int .i64 0)) (i := 2) (oi := { dst := some 54, op := Go.Op.call { callee := Go.Callee.value (Go.Operand.func 23), args := #[Go.Operand.tmp 52, Go.Operand.tmp 53], argTypes := #[46, 9] }, type := 4, pos := "law.go:80", after := #[{ on := 0, ground := Go.Ground.data }, { on := 1, ground := Go.Ground.data }], guard := none }) (by kernel_rfl) (cd.cell hb0 (not_no _)) (fun _ h => h) rfl (by rfl) (fun K hK => ?_)
        go_simp
        refine (Ad.out _ (Hs.out.keepNo cd) (by omega) Hbd.out).mono ?_
        rintro e w5 ⟨rfl, hs5, hc5⟩
        rw [← Hsn.out] at hs5
        rw [Hr.out]
        have hcr5 := (hcr.trans cd.of_no).trans hc5
        have hb5 := hc5.cell (cd.cell hb0 (not_no _)) hnb2
        have Hs5 := Lib.hid hs5
        clear hs5 hc5
        refine hK _ _ ?_
        clear hK K
        try simp only [Act.put, List.setIfInBounds_toArray, List.set_cons_zero, List.set_cons_succ]
        ((refine reg_yes (i := 8) (oi := { dst := some 60, op := Go.Op.binOp Go.BinOp.neq 4 (Go.Operand.tmp 54) (Go.Operand.tmp 59) 4, type := 4, pos := "law.go:80", after := #[{ on := 2, ground := Go.Ground.data }, { on := 7, ground := Go.Ground.data }], guard := none }) (v := ?_) rfl (by kernel_rfl) (by kernel_rfl) (by kernel_rfl) (fun _ _ _ h => h) rfl ?_ ?_); rotate_left; focus (intro W hW; (try dsimp only at hW); go_split_ands; go_simp; (try (simp (disch := omega) only [IntWalk.i64_in]; (try go_simp))); (try (split; (next => omega); (try go_simp))); try rfl; done))
        try simp only [Act.put, List.setIfInBounds_toArray, List.set_cons_zero, List.set_cons_succ]
        -- ready: []
        refine reg_done (by kernel_rfl) hb5 ?_
        go_wp2_with (first | (with_reducible refine stop_append ?_) | (with_reducible refine stop_copy ?_) | (with_reducible refine stop_make ?_) | (with_reducible refine stop_lookup ?_) | (with_reducible refine stop_update ?_) | (with_reducible refine stop_slice ?_) | (with_reducible refine stop_range ?_) | (with_reducible refine stop_next ?_) | (with_reducible refine stop_convert ⟨_, rfl⟩ ?_) | (with_reducible refine stop_convertB ⟨_, _, _, rfl⟩ ?_) | (with_reducible refine stop_eqSlice ⟨_, _, rfl⟩ ?_))
        go_roundw
        case rel => exact ⟨k + 1, by omega, by go_num, by rw [Hsn.out, Hn.out], Hs5.out, hcr5⟩
        case measure => simp [intOf]; omega
      · have Hr := Lib.hid hr; have Hn := Lib.hid hn
        clear hr hn
        go_wp2_with (first | (with_reducible refine stop_append ?_) | (with_reducible refine stop_copy ?_) | (with_reducible refine stop_make ?_) | (with_reducible refine stop_lookup ?_) | (with_reducible refine stop_update ?_) | (with_reducible refine stop_slice ?_) | (with_reducible refine stop_range ?_) | (with_reducible refine stop_next ?_) | (with_reducible refine stop_convert ⟨_, rfl⟩ ?_) | (with_reducible refine stop_convertB ⟨_, _, _, rfl⟩ ?_) | (with_reducible refine stop_eqSlice ⟨_, _, rfl⟩ ?_))
        refine reg_start (fun W => W.cell? ⟨b2, o2 + k, none⟩ = some (.int .i64 1)) (by kernel_rfl) ?_
        ((refine reg_yes (i := 0) (oi := { dst := some 52, op := Go.Op.move (Go.Operand.tmp 5), type := 46, pos := "law.go:80", after := #[], guard := none }) (v := ?_) rfl (by kernel_rfl) (by kernel_rfl) (by kernel_rfl) (fun _ _ _ h => h) rfl ?_ ?_); rotate_left; focus (intro W hW; (try dsimp only at hW); go_split_ands; go_simp; (try (simp (disch := omega) only [IntWalk.i64_in]; (try go_simp))); (try (split; (next => omega); (try go_simp))); try rfl; done))
        try simp only [Act.put, List.setIfInBounds_toArray, List.set_cons_zero, List.set_cons_succ]
        ((refine reg_yes (i := 1) (oi := { dst := some 53, op := Go.Op.move (Go.Operand.tmp 10), type := 9, pos := "law.go:80", after := #[], guard := none }) (v := ?_) rfl (by kernel_rfl) (by kernel_rfl) (by kernel_rfl) (fun _ _ _ h => h) rfl ?_ ?_); rotate_left; focus (intro W hW; (try dsimp only at hW); go_split_ands; go_simp; (try (simp (disch := omega) only [IntWalk.i64_in]; (try go_simp))); (try (split; (next => omega); (try go_simp))); try rfl; done))
        try simp only [Act.put, List.setIfInBounds_toArray, List.set_cons_zero, List.set_cons_succ]
        ((refine reg_yes (i := 3) (oi := { dst := some 55, op := Go.Op.move (Go.Operand.tmp 7), type := 50, pos := "law.go:80", after := #[], guard := none }) (v := ?_) rfl (by kernel_rfl) (by kernel_rfl) (by kernel_rfl) (fun _ _ _ h => h) rfl ?_ ?_); rotate_left; focus (intro W hW; (try dsimp only at hW); go_split_ands; go_simp; (try (simp (disch := omega) only [IntWalk.i64_in]; (try go_simp))); (try (split; (next => omega); (try go_simp))); try rfl; done))
        try simp only [Act.put, List.setIfInBounds_toArray, List.set_cons_zero, List.set_cons_succ]
        ((refine reg_yes (i := 4) (oi := { dst := some 56, op := Go.Op.move (Go.Operand.tmp 9), type := 3, pos := "law.go:80", after := #[], guard := none }) (v := ?_) rfl (by kernel_rfl) (by kernel_rfl) (by kernel_rfl) (fun _ _ _ h => h) rfl ?_ ?_); rotate_left; focus (intro W hW; (try dsimp only at hW); go_split_ands; go_simp; (try (simp (disch := omega) only [IntWalk.i64_in]; (try go_simp))); (try (split; (next => omega); (try go_simp))); try rfl; done))
        try simp only [Act.put, List.setIfInBounds_toArray, List.set_cons_zero, List.set_cons_succ]
        ((refine reg_yes (i := 5) (oi := { dst := some 57, op := Go.Op.indexAddr 50 (Go.Operand.tmp 55) (Go.Operand.tmp 56), type := 0, pos := "law.go:80", after := #[{ on := 3, ground := Go.Ground.data }, { on := 4, ground := Go.Ground.data }], guard := none }) (v := ?_) rfl (by kernel_rfl) (by kernel_rfl) (by kernel_rfl) (fun _ _ _ h => h) rfl ?_ ?_); rotate_left; focus (intro W hW; (try dsimp only at hW); go_split_ands; go_simp; (try (simp (disch := omega) only [IntWalk.i64_in]; (try go_simp))); (try (split; (next => omega); (try go_simp))); try rfl; done))
        try simp only [Act.put, List.setIfInBounds_toArray, List.set_cons_zero, List.set_cons_succ]
        ((refine reg_yes (i := 6) (oi := { dst := some 58, op := Go.Op.load 3 (Go.Operand.tmp 57), type := 3, pos := "law.go:80", after := #[{ on := 5, ground := Go.Ground.data }], guard := none }) (v := ?_) rfl (by kernel_rfl) (by kernel_rfl) (by kernel_rfl) (fun _ _ _ h => h) rfl ?_ ?_); rotate_left; focus (intro W hW; (try dsimp only at hW); go_split_ands; go_simp; (try (simp (disch := omega) only [IntWalk.i64_in]; (try go_simp))); (try (split; (next => omega); (try go_simp))); try rfl; done))
        try simp only [Act.put, List.setIfInBounds_toArray, List.set_cons_zero, List.set_cons_succ]
        ((refine reg_yes (i := 7) (oi := { dst := some 59, op := Go.Op.binOp Go.BinOp.gtr 3 (Go.Operand.tmp 58) (Go.Operand.const (Go.Value.int Go.IntKind.i64 0)) 3, type := 4, pos := "law.go:80", after := #[{ on := 6, ground := Go.Ground.data }], guard := none }) (v := ?_) rfl (by kernel_rfl) (by kernel_rfl) (by kernel_rfl) (fun _ _ _ h => h) rfl ?_ ?_); rotate_left; focus (intro W hW; (try dsimp only at hW); go_split_ands; go_simp; (try (simp (disch := omega) only [IntWalk.i64_in]; (try go_simp))); (try (split; (next => omega); (try go_simp))); try rfl; done))
        try simp only [Act.put, List.setIfInBounds_toArray, List.set_cons_zero, List.set_cons_succ]
        -- ready: [2]
        refine reg_k (fun W => W.cell? ⟨b2, o2 + k, none⟩ = some (.int .i64 1)) (i := 2) (oi := { dst := some 54, op := Go.Op.call { callee := Go.Callee.value (Go.Operand.func 23), args := #[Go.Operand.tmp 52, Go.Operand.tmp 53], argTypes := #[46, 9] }, type := 4, pos := "law.go:80", after := #[{ on := 0, ground := Go.Ground.data }, { on := 1, ground := Go.Ground.data }], guard := none }) (by kernel_rfl) (cd.cell hb0 (not_no _)) (fun _ h => h) rfl (by rfl) (fun K hK => ?_)
        go_simp
        refine (Ad.out _ (Hs.out.keepNo cd) (by omega) Hbd.out).mono ?_
        rintro e w5 ⟨rfl, hs5, hc5⟩
        rw [← Hsn.out] at hs5
        rw [Hr.out]
        have hcr5 := (hcr.trans cd.of_no).trans hc5
        have hb5 := hc5.cell (cd.cell hb0 (not_no _)) hnb2
        have Hs5 := Lib.hid hs5
        clear hs5 hc5
        refine hK _ _ ?_
        clear hK K
        try simp only [Act.put, List.setIfInBounds_toArray, List.set_cons_zero, List.set_cons_succ]
        ((refine reg_yes (i := 8) (oi := { dst := some 60, op := Go.Op.binOp Go.BinOp.neq 4 (Go.Operand.tmp 54) (Go.Operand.tmp 59) 4, type := 4, pos := "law.go:80", after := #[{ on := 2, ground := Go.Ground.data }, { on := 7, ground := Go.Ground.data }], guard := none }) (v := ?_) rfl (by kernel_rfl) (by kernel_rfl) (by kernel_rfl) (fun _ _ _ h => h) rfl ?_ ?_); rotate_left; focus (intro W hW; (try dsimp only at hW); go_split_ands; go_simp; (try (simp (disch := omega) only [IntWalk.i64_in]; (try go_simp))); (try (split; (next => omega); (try go_simp))); try rfl; done))
        try simp only [Act.put, List.setIfInBounds_toArray, List.set_cons_zero, List.set_cons_succ]
        -- ready: []
        refine reg_done (by kernel_rfl) hb5 ?_
        go_wp2_with (first | (with_reducible refine stop_append ?_) | (with_reducible refine stop_copy ?_) | (with_reducible refine stop_make ?_) | (with_reducible refine stop_lookup ?_) | (with_reducible refine stop_update ?_) | (with_reducible refine stop_slice ?_) | (with_reducible refine stop_range ?_) | (with_reducible refine stop_next ?_) | (with_reducible refine stop_convert ⟨_, rfl⟩ ?_) | (with_reducible refine stop_convertB ⟨_, _, _, rfl⟩ ?_) | (with_reducible refine stop_eqSlice ⟨_, _, rfl⟩ ?_))
        go_roundw
        case rel => exact ⟨k + 1, by omega, by go_num, by rw [Hsn.out, Hn.out], Hs5.out, hcr5⟩
        case measure => simp [intOf]; omega
      · have Hr := Lib.hid hr; have Hn := Lib.hid hn
        clear hr hn
        go_wp2_with (first | (with_reducible refine stop_append ?_) | (with_reducible refine stop_copy ?_) | (with_reducible refine stop_make ?_) | (with_reducible refine stop_lookup ?_) | (with_reducible refine stop_update ?_) | (with_reducible refine stop_slice ?_) | (with_reducible refine stop_range ?_) | (with_reducible refine stop_next ?_) | (with_reducible refine stop_convert ⟨_, rfl⟩ ?_) | (with_reducible refine stop_convertB ⟨_, _, _, rfl⟩ ?_) | (with_reducible refine stop_eqSlice ⟨_, _, rfl⟩ ?_))
        refine reg_start (fun W => W.cell? ⟨b2, o2 + k, none⟩ = some (.int .i64 2)) (by kernel_rfl) ?_
        ((refine reg_yes (i := 0) (oi := { dst := some 52, op := Go.Op.move (Go.Operand.tmp 5), type := 46, pos := "law.go:80", after := #[], guard := none }) (v := ?_) rfl (by kernel_rfl) (by kernel_rfl) (by kernel_rfl) (fun _ _ _ h => h) rfl ?_ ?_); rotate_left; focus (intro W hW; (try dsimp only at hW); go_split_ands; go_simp; (try (simp (disch := omega) only [IntWalk.i64_in]; (try go_simp))); (try (split; (next => omega); (try go_simp))); try rfl; done))
        try simp only [Act.put, List.setIfInBounds_toArray, List.set_cons_zero, List.set_cons_succ]
        ((refine reg_yes (i := 1) (oi := { dst := some 53, op := Go.Op.move (Go.Operand.tmp 10), type := 9, pos := "law.go:80", after := #[], guard := none }) (v := ?_) rfl (by kernel_rfl) (by kernel_rfl) (by kernel_rfl) (fun _ _ _ h => h) rfl ?_ ?_); rotate_left; focus (intro W hW; (try dsimp only at hW); go_split_ands; go_simp; (try (simp (disch := omega) only [IntWalk.i64_in]; (try go_simp))); (try (split; (next => omega); (try go_simp))); try rfl; done))
        try simp only [Act.put, List.setIfInBounds_toArray, List.set_cons_zero, List.set_cons_succ]
        ((refine reg_yes (i := 3) (oi := { dst := some 55, op := Go.Op.move (Go.Operand.tmp 7), type := 50, pos := "law.go:80", after := #[], guard := none }) (v := ?_) rfl (by kernel_rfl) (by kernel_rfl) (by kernel_rfl) (fun _ _ _ h => h) rfl ?_ ?_); rotate_left; focus (intro W hW; (try dsimp only at hW); go_split_ands; go_simp; (try (simp (disch := omega) only [IntWalk.i64_in]; (try go_simp))); (try (split; (next => omega); (try go_simp))); try rfl; done))
        try simp only [Act.put, List.setIfInBounds_toArray, List.set_cons_zero, List.set_cons_succ]
        ((refine reg_yes (i := 4) (oi := { dst := some 56, op := Go.Op.move (Go.Operand.tmp 9), type := 3, pos := "law.go:80", after := #[], guard := none }) (v := ?_) rfl (by kernel_rfl) (by kernel_rfl) (by kernel_rfl) (fun _ _ _ h => h) rfl ?_ ?_); rotate_left; focus (intro W hW; (try dsimp only at hW); go_split_ands; go_simp; (try (simp (disch := omega) only [IntWalk.i64_in]; (try go_simp))); (try (split; (next => omega); (try go_simp))); try rfl; done))
        try simp only [Act.put, List.setIfInBounds_toArray, List.set_cons_zero, List.set_cons_succ]
        ((refine reg_yes (i := 5) (oi := { dst := some 57, op := Go.Op.indexAddr 50 (Go.Operand.tmp 55) (Go.Operand.tmp 56), type := 0, pos := "law.go:80", after := #[{ on := 3, ground := Go.Ground.data }, { on := 4, ground := Go.Ground.data }], guard := none }) (v := ?_) rfl (by kernel_rfl) (by kernel_rfl) (by kernel_rfl) (fun _ _ _ h => h) rfl ?_ ?_); rotate_left; focus (intro W hW; (try dsimp only at hW); go_split_ands; go_simp; (try (simp (disch := omega) only [IntWalk.i64_in]; (try go_simp))); (try (split; (next => omega); (try go_simp))); try rfl; done))
        try simp only [Act.put, List.setIfInBounds_toArray, List.set_cons_zero, List.set_cons_succ]
        ((refine reg_yes (i := 6) (oi := { dst := some 58, op := Go.Op.load 3 (Go.Operand.tmp 57), type := 3, pos := "law.go:80", after := #[{ on := 5, ground := Go.Ground.data }], guard := none }) (v := ?_) rfl (by kernel_rfl) (by kernel_rfl) (by kernel_rfl) (fun _ _ _ h => h) rfl ?_ ?_); rotate_left; focus (intro W hW; (try dsimp only at hW); go_split_ands; go_simp; (try (simp (disch := omega) only [IntWalk.i64_in]; (try go_simp))); (try (split; (next => omega); (try go_simp))); try rfl; done))
        try simp only [Act.put, List.setIfInBounds_toArray, List.set_cons_zero, List.set_cons_succ]
        ((refine reg_yes (i := 7) (oi := { dst := some 59, op := Go.Op.binOp Go.BinOp.gtr 3 (Go.Operand.tmp 58) (Go.Operand.const (Go.Value.int Go.IntKind.i64 0)) 3, type := 4, pos := "law.go:80", after := #[{ on := 6, ground := Go.Ground.data }], guard := none }) (v := ?_) rfl (by kernel_rfl) (by kernel_rfl) (by kernel_rfl) (fun _ _ _ h => h) rfl ?_ ?_); rotate_left; focus (intro W hW; (try dsimp only at hW); go_split_ands; go_simp; (try (simp (disch := omega) only [IntWalk.i64_in]; (try go_simp))); (try (split; (next => omega); (try go_simp))); try rfl; done))
        try simp only [Act.put, List.setIfInBounds_toArray, List.set_cons_zero, List.set_cons_succ]
        -- ready: [2]
        refine reg_k (fun W => W.cell? ⟨b2, o2 + k, none⟩ = some (.int .i64 2)) (i := 2) (oi := { dst := some 54, op := Go.Op.call { callee := Go.Callee.value (Go.Operand.func 23), args := #[Go.Operand.tmp 52, Go.Operand.tmp 53], argTypes := #[46, 9] }, type := 4, pos := "law.go:80", after := #[{ on := 0, ground := Go.Ground.data }, { on := 1, ground := Go.Ground.data }], guard := none }) (by kernel_rfl) (cd.cell hb0 (not_no _)) (fun _ h => h) rfl (by rfl) (fun K hK => ?_)
        go_simp
        refine (Ad.out _ (Hs.out.keepNo cd) (by omega) Hbd.out).mono ?_
        rintro e w5 ⟨rfl, hs5, hc5⟩
        rw [← Hsn.out] at hs5
        rw [Hr.out]
        have hcr5 := (hcr.trans cd.of_no).trans hc5
        have hb5 := hc5.cell (cd.cell hb0 (not_no _)) hnb2
        have Hs5 := Lib.hid hs5
        clear hs5 hc5
        refine hK _ _ ?_
        clear hK K
        try simp only [Act.put, List.setIfInBounds_toArray, List.set_cons_zero, List.set_cons_succ]
        ((refine reg_yes (i := 8) (oi := { dst := some 60, op := Go.Op.binOp Go.BinOp.neq 4 (Go.Operand.tmp 54) (Go.Operand.tmp 59) 4, type := 4, pos := "law.go:80", after := #[{ on := 2, ground := Go.Ground.data }, { on := 7, ground := Go.Ground.data }], guard := none }) (v := ?_) rfl (by kernel_rfl) (by kernel_rfl) (by kernel_rfl) (fun _ _ _ h => h) rfl ?_ ?_); rotate_left; focus (intro W hW; (try dsimp only at hW); go_split_ands; go_simp; (try (simp (disch := omega) only [IntWalk.i64_in]; (try go_simp))); (try (split; (next => omega); (try go_simp))); try rfl; done))
        try simp only [Act.put, List.setIfInBounds_toArray, List.set_cons_zero, List.set_cons_succ]
        -- ready: []
        refine reg_done (by kernel_rfl) hb5 ?_
        go_wp2_with (first | (with_reducible refine stop_append ?_) | (with_reducible refine stop_copy ?_) | (with_reducible refine stop_make ?_) | (with_reducible refine stop_lookup ?_) | (with_reducible refine stop_update ?_) | (with_reducible refine stop_slice ?_) | (with_reducible refine stop_range ?_) | (with_reducible refine stop_next ?_) | (with_reducible refine stop_convert ⟨_, rfl⟩ ?_) | (with_reducible refine stop_convertB ⟨_, _, _, rfl⟩ ?_) | (with_reducible refine stop_eqSlice ⟨_, _, rfl⟩ ?_))
        go_roundw
        case rel => exact ⟨k + 1, by omega, by go_num, by rw [Hsn.out, Hn.out], Hs5.out, hcr5⟩
        case measure => simp [intOf]; omega
    · obtain rfl : k = xs.length := by omega
      have hs := Hs.out
      rw [List.take_length] at hs ⊢
      have hks := (KS.all xs xs.length (Nat.le_refl _)).le (M := 1000) (by omega)
      have hbd := (addAll_bd xs xs.length (Nat.le_refl _)).le (C := 1000) (by omega)
      rw [List.take_length] at hks hbd
      have hids : ∀ i (hi : i < xs.length) (hi' : i < O.length), (O[i] = 0 ∨ O[i] = 1 ∨ O[i] = 2) ∧ ∀ t, parseR xs[i].data.toList = some t → O[i] ≠ 0 → mget (addAll s0 xs).ids t.1 = some (decide (O[i] = 2)) := fun i hi hi' => by
        have h1 := Hat.out i hi hi
        rw [List.getElem?_eq_getElem hi'] at h1
        have h1 := Option.some.inj h1
        refine ⟨?_, fun t ht ho => by rw [h1] at ho ⊢; exact ids_from hi ht ho⟩
        rw [h1]
        rcases oS_cases (addAll s0 (xs.take i)) xs[i] with ⟨h, _⟩ | ⟨h, _⟩ | ⟨h, _⟩
        · exact .inl h
        · exact .inr (.inl h)
        · exact .inr (.inr h)
      have hcm : (mget (addAll s0 xs).ids fd).isSome = decide (0 ≤ cameL xs fd) := by
        rw [cameL_ge, came_list]; rfl
      have hfs := Hrl.out.fields hks.nodup
      have hcell := fun j hj => Hrl.out.cell j hj
      have hgv := Hrl.out.val fd
      have hgn : verS (addAll s0 xs) fd = (getL L fd).2.1 := Hrl.out.ver fd
      clear Hs hlt hk Hat
      generalize addAll s0 xs = s at *
      have Hs := Lib.hid hs; have Hks := Lib.hid hks; have Hids := Lib.hid hids; have Hcm := Lib.hid hcm; have Hfs := Lib.hid hfs; have Hcell := Lib.hid hcell; have Hgv := Lib.hid hgv; have Hgn := Lib.hid hgn
      have hn0 := hbd.2.1
      have hn1 := hbd.2.2
      clear hs hks hids hcm hfs hcell hgv hgn hbd Hrl Hfew Hfo
      obtain ⟨wA, rfl⟩ : ∃ W : World, W = wr := ⟨_, rfl⟩
      have HvlA := Lib.hid (Hvl.out.keep hcr)
      have HvoA := Lib.hid (Hvo.out.keep hcr)
      clear Hvl Hvo hcr hc03
      have hls : L.length ≤ 640 := by omega
      obtain ⟨nn, hnn⟩ : ∃ n, n = s.n := ⟨_, rfl⟩
      have dn := fun W hW => done_any p rc ri s W hW
      rw [← hnn] at dn hn0 hn1 ⊢
      have Dn := Lib.hid dn
      clear dn hnn
      go_wp2_with (first | (with_reducible refine stop_append ?_) | (with_reducible refine stop_copy ?_) | (with_reducible refine stop_make ?_) | (with_reducible refine stop_lookup ?_) | (with_reducible refine stop_update ?_) | (with_reducible refine stop_slice ?_) | (with_reducible refine stop_range ?_) | (with_reducible refine stop_next ?_) | (with_reducible refine stop_convert ⟨_, rfl⟩ ?_) | (with_reducible refine stop_convertB ⟨_, _, _, rfl⟩ ?_) | (with_reducible refine stop_eqSlice ⟨_, _, rfl⟩ ?_))
      go_loopw [11, 71] (fun v11 v71 wr => ∃ (j : Nat) (v : Value), j ≤ L.length ∧ v71 = .int .i64 j ∧ v11 = v ∧ Own No wr wA.heap.size 3 v ((L.take j).map (·.1)) ∧ Chg No wA wr) (fun _ v71 _ => L.length - (intOf v71).toNat)
      case atStart => exact ⟨0, _, by omega, rfl, rfl, by simpa using Own.nil _ _ _ _, Chg.refl _ _⟩
      case round =>
        obtain ⟨j, vf, hj, rfl, rfl, hown, hcA⟩ := hrel
        have Hown := Lib.hid hown
        clear hown
        by_cases hjl : j < L.length
        · obtain ⟨b, o, dd, rfl, _, hbl, ⟨_, _, rfl, rfl, _, _, rfl, rfl, rfl⟩, ha⟩ := (HvlA.out.keepNo hcA).get j hjl
          have ha0 := ha 0 _ rfl
          have ha1 := ha 1 _ rfl
          have ha2 := ha 2 _ rfl
          simp only [show Rep.n RCell = 3 from rfl, Nat.add_zero] at ha0 ha1 ha2
          have hsn : (L.take (j + 1)).map (·.1) = (L.take j).map (·.1) ++ [L[j].1] := by rw [List.take_succ_eq_append_getElem hjl, List.map_append]; rfl
          obtain ⟨hv1, hv2⟩ := Hcell.out j hjl
          clear ha
          generalize L[j] = x at ha0 ha1 ha2 hsn hv1 hv2
          obtain ⟨c0, c1, c2⟩ := x
          simp only at ha0 ha1 ha2 hsn hv1 hv2
          have gt : ∀ W, Sto W p rc ri s → Calls Try.prog 25 #[.pointer (some ⟨p, 0, none⟩), .int .i64 c0] W fun e w' => e = .returned (.tuple #[.string c2, .int .i64 c1]) ∧ Chg No W w' := fun W hW => by
            rw [← hv1, ← hv2]; exact get_any p rc ri s c0 W hW
          have Gt := Lib.hid gt; have Hsn := Lib.hid hsn
          have hlen : ((L.take j).map (·.1)).length = j := by rw [List.length_map, List.length_take]; omega
          clear gt hsn hv1 hv2
          have o13 := alloc_obj wr (.cells #[.int .i64 c0, .int .i64 c1, .string c2] 71)
          have c5 := (Chg.refl No wr).alloc (.cells #[.int .i64 c0, .int .i64 c1, .string c2] 71)
          have z0 := cell_obj (i := 0) o13 rfl
          have e5 : (wr.alloc (.cells #[.int .i64 c0, .int .i64 c1, .string c2] 71)).heap.size = wr.heap.size + 1 := by simp
          have hob : ∀ i, OB u11 i → wA.heap.size ≤ i ∧ i < wr.heap.size := fun i hi => Hown.out.lt i hi
          go_wp2_with (first | (with_reducible refine stop_append ?_) | (with_reducible refine stop_copy ?_) | (with_reducible refine stop_make ?_) | (with_reducible refine stop_lookup ?_) | (with_reducible refine stop_update ?_) | (with_reducible refine stop_slice ?_) | (with_reducible refine stop_range ?_) | (with_reducible refine stop_next ?_) | (with_reducible refine stop_convert ⟨_, rfl⟩ ?_) | (with_reducible refine stop_convertB ⟨_, _, _, rfl⟩ ?_) | (with_reducible refine stop_eqSlice ⟨_, _, rfl⟩ ?_))
          generalize wr.alloc (.cells #[.int .i64 c0, .int .i64 c1, .string c2] 71) = w5 at *
          rw [← e5]
          have hown5 := Hown.out.keepFlat c5 (fun _ _ f => f)
          refine step_append_flat (α := Int) (ys := [c0]) Try.underlying50 info_int rfl (hown5.alloc (.cells #[.int .i64 c0] 3)) rfl rfl (Sl.lit1 (F := No) (y := c0) rfl rfl (not_no _)) (by rw [hlen]; simp; omega) (by rw [hlen]; simp; omega) (by have := c5.size; have := hcA.size; simp; omega) ?_
          intro v7 w7 hown7 hg7
          have hA5 := (Chg.refl No w5).alloc (.cells #[.int .i64 c0] 3)
          have o137 := hg7.chg.obj (hA5.obj o13 (not_no _)) (fun h => by have := (hob _ h).2; omega)
          have hc07 : Chg No wA w7 := ((hcA.trans c5).trans hA5).old hg7.chg (fun i hi => (hob i hi).1)
          rw [show (L.take j).map (·.1) ++ [c0] = (L.take (j + 1)).map (·.1) from Hsn.out.symm] at hown7
          have Hown7 := Lib.hid hown7
          have z07 := cell_obj (i := 0) o137 rfl
          generalize wr.heap.size = q13 at *
          clear hown5 hown7 hg7 hA5 z0 o13 e5
          go_wp2_with (first | (with_reducible refine stop_append ?_) | (with_reducible refine stop_copy ?_) | (with_reducible refine stop_make ?_) | (with_reducible refine stop_lookup ?_) | (with_reducible refine stop_update ?_) | (with_reducible refine stop_slice ?_) | (with_reducible refine stop_range ?_) | (with_reducible refine stop_next ?_) | (with_reducible refine stop_convert ⟨_, rfl⟩ ?_) | (with_reducible refine stop_convertB ⟨_, _, _, rfl⟩ ?_) | (with_reducible refine stop_eqSlice ⟨_, _, rfl⟩ ?_))
          refine (Gt.out w7 (Hs.out.keepNo hc07)).mono ?_
          rintro e w8 ⟨rfl, hc8⟩
          have o138 := hc8.obj o137 (not_no _)
          have z18 := cell_obj (i := 1) o138 rfl
          have z28 := cell_obj (i := 2) o138 rfl
          have hc08 := hc07.trans hc8
          have Hown8 := Lib.hid (Hown7.out.keepFlat hc8 (fun _ _ f => f))
          go_wp2_with (first | (with_reducible refine stop_append ?_) | (with_reducible refine stop_copy ?_) | (with_reducible refine stop_make ?_) | (with_reducible refine stop_lookup ?_) | (with_reducible refine stop_update ?_) | (with_reducible refine stop_slice ?_) | (with_reducible refine stop_range ?_) | (with_reducible refine stop_next ?_) | (with_reducible refine stop_convert ⟨_, rfl⟩ ?_) | (with_reducible refine stop_convertB ⟨_, _, _, rfl⟩ ?_) | (with_reducible refine stop_eqSlice ⟨_, _, rfl⟩ ?_))
          go_roundw
          case rel => exact ⟨j + 1, _, by omega, by go_num, rfl, Hown8.out, hc08⟩
          case measure => simp [intOf]; omega
        · obtain rfl : j = L.length := by omega
          have hown := Hown.out
          rw [List.take_length] at hown
          have hsf : Sl No wr u11 (fieldsS s) := by rw [Hfs.out]; exact hown.slFlat (fun _ _ => not_no _)
          have Hsf := Lib.hid hsf
          clear hown hsf Hown hjl hj
          obtain ⟨wB, rfl⟩ : ∃ W : World, W = wr := ⟨_, rfl⟩
          have hcwB := hcw.trans hcA
          have HsB := Lib.hid (Hs.out.keepNo hcA)
          have HvlB := Lib.hid (HvlA.out.keepNo hcA)
          have HvoB := Lib.hid (HvoA.out.keepNo hcA)
          clear Hs HvlA HvoA hcw hcA
          go_wp2_with (first | (with_reducible refine stop_append ?_) | (with_reducible refine stop_copy ?_) | (with_reducible refine stop_make ?_) | (with_reducible refine stop_lookup ?_) | (with_reducible refine stop_update ?_) | (with_reducible refine stop_slice ?_) | (with_reducible refine stop_range ?_) | (with_reducible refine stop_next ?_) | (with_reducible refine stop_convert ⟨_, rfl⟩ ?_) | (with_reducible refine stop_convertB ⟨_, _, _, rfl⟩ ?_) | (with_reducible refine stop_eqSlice ⟨_, _, rfl⟩ ?_))
          go_loopw [100] (fun v100 wr => ∃ (i : Nat), i ≤ xs.length ∧ v100 = .int .i64 i ∧ Chg No wB wr) (fun v100 _ => xs.length - (intOf v100).toNat)
          case atStart => exact ⟨0, by omega, rfl, Chg.refl _ _⟩
          case round =>
            obtain ⟨i, hi, rfl, hcz⟩ := hrel
            by_cases hil : i < xs.length
            · obtain ⟨b, o, d, rfl, _, hbl, rfl, ha⟩ := (H.out.keepNo (hcwB.trans hcz)).get i hil
              have ha0 := ha 0 _ rfl
              simp only [show Rep.n ByteArray = 1 from rfl, Nat.mul_one, Nat.add_zero] at ha0
              have hok : i < O.length := by omega
              obtain ⟨b2, o2, d2, rfl, _, hbl2, rfl, hb⟩ := (HvoB.out.keepNo hcz).get i hok
              have hb0 := hb 0 _ rfl
              simp only [show Rep.n Int = 1 from rfl, Nat.mul_one, Nat.add_zero] at hb0
              obtain ⟨hO3, hOi⟩ := Hids.out i hil hok
              clear ha hb
              generalize O[i] = ov at hb0 hO3 hOi
              generalize xs[i] = x at ha0 hOi
              have hp := fun W => refparse_both x W
              unfold TxPost at hp
              have hpe : (parseE x.data.toList = 0 ∧ parseR x.data.toList = some (parseO x.data.toList)) ∨ ((parseE x.data.toList == 0) = false ∧ (parseE x.data.toList != 0) = true) := by
                unfold parseE parseO
                cases parseR x.data.toList with
                | none => exact .inr ⟨rfl, rfl⟩
                | some t => exact .inl ⟨rfl, rfl⟩
              generalize parseE x.data.toList = pe at hp hpe
              generalize parseO x.data.toList = po at hp hpe
              obtain ⟨pi, pr, pw⟩ := po
              simp only at hp
              have hpcase : ((pe == 0) = false ∧ (pe != 0) = true) ∨ (pe = 0 ∧ ov = 0) ∨ (pe = 0 ∧ ov = 1 ∧ mget s.ids pi = some false) ∨ (pe = 0 ∧ ov = 2 ∧ mget s.ids pi = some true) := by
                rcases hpe with ⟨h1, h2⟩ | h
                · rcases hO3 with h | h | h
                  · exact .inr (.inl ⟨h1, h⟩)
                  · have := hOi _ h2 (by omega); rw [h] at this; exact .inr (.inr (.inl ⟨h1, h, this⟩))
                  · have := hOi _ h2 (by omega); rw [h] at this; exact .inr (.inr (.inr ⟨h1, h, this⟩))
                · exact .inl h
              have Hp := Lib.hid hp
              clear hp hpe hO3 hOi
              go_wp2_with (first | (with_reducible refine stop_append ?_) | (with_reducible refine stop_copy ?_) | (with_reducible refine stop_make ?_) | (with_reducible refine stop_lookup ?_) | (with_reducible refine stop_update ?_) | (with_reducible refine stop_slice ?_) | (with_reducible refine stop_range ?_) | (with_reducible refine stop_next ?_) | (with_reducible refine stop_convert ⟨_, rfl⟩ ?_) | (with_reducible refine stop_convertB ⟨_, _, _, rfl⟩ ?_) | (with_reducible refine stop_eqSlice ⟨_, _, rfl⟩ ?_))
              refine (Hp.out wr).mono ?_
              rintro e w3' ⟨v1, v2, rfl, hc3, hs1, hs2⟩
              obtain ⟨B1, d1, rfl⟩ := hs1.slice
              obtain ⟨B2, d2, rfl⟩ := hs2.slice
              have o18 := alloc_obj w3' (.cells #[.int .i64 pi, .slice B1 pr.length d1, .slice B2 pw.length d2] 25)
              have c34 := (Chg.refl No w3').alloc (.cells #[.int .i64 pi, .slice B1 pr.length d1, .slice B2 pw.length d2] 25)
              have z0 := cell_obj (i := 0) o18 rfl
              have hb4 := (hc3.trans c34).cell hb0 (not_no _)
              have hb3 := hc3.cell hb0 (not_no _)
              have hbne : b2 ≠ w3'.heap.size := by have := hc3.size; omega
              have hcz4 := (hcz.trans hc3).trans c34
              have Hs4 := Lib.hid (HsB.out.keepNo hcz4)
              clear hs1 hs2
              rcases hpcase with ⟨hq1, hq2⟩ | ⟨rfl, rfl⟩ | ⟨rfl, rfl, hm⟩ | ⟨rfl, rfl, hm⟩
              · skip
                go_wp2_with (first | (with_reducible refine stop_append ?_) | (with_reducible refine stop_copy ?_) | (with_reducible refine stop_make ?_) | (with_reducible refine stop_lookup ?_) | (with_reducible refine stop_update ?_) | (with_reducible refine stop_slice ?_) | (with_reducible refine stop_range ?_) | (with_reducible refine stop_next ?_) | (with_reducible refine stop_convert ⟨_, rfl⟩ ?_) | (with_reducible refine stop_convertB ⟨_, _, _, rfl⟩ ?_) | (with_reducible refine stop_eqSlice ⟨_, _, rfl⟩ ?_))
                go_roundw
                case rel => exact ⟨i + 1, by omega, by go_num, hcz4⟩
                case measure => simp [intOf]; omega
              · skip
                go_wp2_with (first | (with_reducible refine stop_append ?_) | (with_reducible refine stop_copy ?_) | (with_reducible refine stop_make ?_) | (with_reducible refine stop_lookup ?_) | (with_reducible refine stop_update ?_) | (with_reducible refine stop_slice ?_) | (with_reducible refine stop_range ?_) | (with_reducible refine stop_next ?_) | (with_reducible refine stop_convert ⟨_, rfl⟩ ?_) | (with_reducible refine stop_convertB ⟨_, _, _, rfl⟩ ?_) | (with_reducible refine stop_eqSlice ⟨_, _, rfl⟩ ?_))
                go_roundw
                case rel => exact ⟨i + 1, by omega, by go_num, hcz4⟩
                case measure => simp [intOf]; omega
              all_goals
                have Hm := Lib.hid hm
                clear hm
                go_wp2_with (first | (with_reducible refine stop_append ?_) | (with_reducible refine stop_copy ?_) | (with_reducible refine stop_make ?_) | (with_reducible refine stop_lookup ?_) | (with_reducible refine stop_update ?_) | (with_reducible refine stop_slice ?_) | (with_reducible refine stop_range ?_) | (with_reducible refine stop_next ?_) | (with_reducible refine stop_convert ⟨_, rfl⟩ ?_) | (with_reducible refine stop_convertB ⟨_, _, _, rfl⟩ ?_) | (with_reducible refine stop_eqSlice ⟨_, _, rfl⟩ ?_))
                refine (outcome_any p rc ri s pi _ Hs4.out).mono ?_
                rintro e w5 ⟨rfl, rfl⟩
                rw [Hm.out]
                simp only [Option.getD_some, Option.isSome_some]
                go_wp2_with (first | (with_reducible refine stop_append ?_) | (with_reducible refine stop_copy ?_) | (with_reducible refine stop_make ?_) | (with_reducible refine stop_lookup ?_) | (with_reducible refine stop_update ?_) | (with_reducible refine stop_slice ?_) | (with_reducible refine stop_range ?_) | (with_reducible refine stop_next ?_) | (with_reducible refine stop_convert ⟨_, rfl⟩ ?_) | (with_reducible refine stop_convertB ⟨_, _, _, rfl⟩ ?_) | (with_reducible refine stop_eqSlice ⟨_, _, rfl⟩ ?_))
                go_roundw
                case rel => exact ⟨i + 1, by omega, by go_num, hcz4⟩
                case measure => simp [intOf]; omega
            · obtain rfl : i = xs.length := by omega
              have hcf := hcwB.trans hcz
              have Hsz := Lib.hid (HsB.out.keepNo hcz)
              have gp := get_any p rc ri s fd wr Hsz.out
              rw [Hgv.out, Hgn.out] at gp
              have gr := fun W hW => getref_any (Sf p rc ri) _ L fd W (HvlB.out.keepNo (hcz.trans hW)) (by omega)
              unfold cellR at gr
              generalize getL L fd = gl at gp gr
              obtain ⟨g0, g1, g2⟩ := gl
              simp only at gp gr
              have cmr := fun W hW => came_any F _ xs fd W (H.out.keepNo (hcf.trans hW)) (by omega)
              have oc := fun W hW => outcome_any p rc ri s fd W hW
              rw [Hcm.out] at oc
              generalize cameL xs fd = cm at oc cmr
              generalize (mget s.ids fd).getD false = gd at oc
              have hfl : (fieldsS s).length ≤ 1000000 := by have := fieldsS_len s; have := Hks.out.len; omega
              have Hfl := Lib.hid hfl; have Gp := Lib.hid gp; have Gr := Lib.hid gr; have Cmr := Lib.hid cmr; have Oc := Lib.hid oc
              clear hfl gp gr cmr oc hil hi
              go_wp2_with (first | (with_reducible refine stop_append ?_) | (with_reducible refine stop_copy ?_) | (with_reducible refine stop_make ?_) | (with_reducible refine stop_lookup ?_) | (with_reducible refine stop_update ?_) | (with_reducible refine stop_slice ?_) | (with_reducible refine stop_range ?_) | (with_reducible refine stop_next ?_) | (with_reducible refine stop_convert ⟨_, rfl⟩ ?_) | (with_reducible refine stop_convertB ⟨_, _, _, rfl⟩ ?_) | (with_reducible refine stop_eqSlice ⟨_, _, rfl⟩ ?_))
              refine Gp.out.mono ?_
              rintro e w4 ⟨rfl, hc4⟩
              go_wp2_with (first | (with_reducible refine stop_append ?_) | (with_reducible refine stop_copy ?_) | (with_reducible refine stop_make ?_) | (with_reducible refine stop_lookup ?_) | (with_reducible refine stop_update ?_) | (with_reducible refine stop_slice ?_) | (with_reducible refine stop_range ?_) | (with_reducible refine stop_next ?_) | (with_reducible refine stop_convert ⟨_, rfl⟩ ?_) | (with_reducible refine stop_convertB ⟨_, _, _, rfl⟩ ?_) | (with_reducible refine stop_eqSlice ⟨_, _, rfl⟩ ?_))
              refine (Gr.out w4 hc4).mono ?_
              rintro e w5 ⟨rfl, hc5⟩
              have hc45 := hc4.trans hc5
              have o24 := alloc_obj w5 (.cells #[.int .i64 g0, .int .i64 g1, .string g2] 71)
              have c56 := (Chg.refl No w5).alloc (.cells #[.int .i64 g0, .int .i64 g1, .string g2] 71)
              go_wp2_with (first | (with_reducible refine stop_append ?_) | (with_reducible refine stop_copy ?_) | (with_reducible refine stop_make ?_) | (with_reducible refine stop_lookup ?_) | (with_reducible refine stop_update ?_) | (with_reducible refine stop_slice ?_) | (with_reducible refine stop_range ?_) | (with_reducible refine stop_next ?_) | (with_reducible refine stop_convert ⟨_, rfl⟩ ?_) | (with_reducible refine stop_convertB ⟨_, _, _, rfl⟩ ?_) | (with_reducible refine stop_eqSlice ⟨_, _, rfl⟩ ?_))
              generalize w5.alloc (.cells #[.int .i64 g0, .int .i64 g1, .string g2] 71) = w6 at *
              generalize w5.heap.size = q24 at *
              have hc46 := hc45.trans c56
              have Hs6 := Lib.hid (Hsz.out.keepNo hc46)
              refine (Oc.out w6 Hs6.out).mono ?_
              rintro e w6' ⟨rfl, rfl⟩
              go_wp2_with (first | (with_reducible refine stop_append ?_) | (with_reducible refine stop_copy ?_) | (with_reducible refine stop_make ?_) | (with_reducible refine stop_lookup ?_) | (with_reducible refine stop_update ?_) | (with_reducible refine stop_slice ?_) | (with_reducible refine stop_range ?_) | (with_reducible refine stop_next ?_) | (with_reducible refine stop_convert ⟨_, rfl⟩ ?_) | (with_reducible refine stop_convertB ⟨_, _, _, rfl⟩ ?_) | (with_reducible refine stop_eqSlice ⟨_, _, rfl⟩ ?_))
              refine (alive_any _).mono ?_
              rintro e w7 ⟨rfl, hc7⟩
              have o247 := hc7.obj o24 (not_no _)
              have z1 := cell_obj (i := 1) o247 rfl
              have z2 := cell_obj (i := 2) o247 rfl
              have hc47 := hc46.trans hc7
              have Hs7 := Lib.hid (Hsz.out.keepNo hc47)
              go_wp2_with (first | (with_reducible refine stop_append ?_) | (with_reducible refine stop_copy ?_) | (with_reducible refine stop_make ?_) | (with_reducible refine stop_lookup ?_) | (with_reducible refine stop_update ?_) | (with_reducible refine stop_slice ?_) | (with_reducible refine stop_range ?_) | (with_reducible refine stop_next ?_) | (with_reducible refine stop_convert ⟨_, rfl⟩ ?_) | (with_reducible refine stop_convertB ⟨_, _, _, rfl⟩ ?_) | (with_reducible refine stop_eqSlice ⟨_, _, rfl⟩ ?_))
              refine (fields_any p rc ri s w7 Hs7.out Hks.out (by omega)).mono ?_
              rintro e w8 ⟨u1, rfl, hc8, hu1⟩
              have hc48 := hc47.trans hc8
              go_wp2_with (first | (with_reducible refine stop_append ?_) | (with_reducible refine stop_copy ?_) | (with_reducible refine stop_make ?_) | (with_reducible refine stop_lookup ?_) | (with_reducible refine stop_update ?_) | (with_reducible refine stop_slice ?_) | (with_reducible refine stop_range ?_) | (with_reducible refine stop_next ?_) | (with_reducible refine stop_convert ⟨_, rfl⟩ ?_) | (with_reducible refine stop_convertB ⟨_, _, _, rfl⟩ ?_) | (with_reducible refine stop_eqSlice ⟨_, _, rfl⟩ ?_))
              refine (equal_any _ _ u1 u11 _ _ w8 hu1 (Hsf.out.keepNo (hcz.trans hc48)) Hfl.out Hfl.out).mono ?_
              rintro e w9 ⟨rfl, hc9⟩
              rw [decide_eq_true (rfl : fieldsS s = fieldsS s)]
              have hc49 := hc48.trans hc9
              go_wp2_with (first | (with_reducible refine stop_append ?_) | (with_reducible refine stop_copy ?_) | (with_reducible refine stop_make ?_) | (with_reducible refine stop_lookup ?_) | (with_reducible refine stop_update ?_) | (with_reducible refine stop_slice ?_) | (with_reducible refine stop_range ?_) | (with_reducible refine stop_next ?_) | (with_reducible refine stop_convert ⟨_, rfl⟩ ?_) | (with_reducible refine stop_convertB ⟨_, _, _, rfl⟩ ?_) | (with_reducible refine stop_eqSlice ⟨_, _, rfl⟩ ?_))
              refine (Dn.out w9 (Hsz.out.keepNo hc49)).mono ?_
              rintro e w10 ⟨rfl, rfl⟩
              go_wp2_with (first | (with_reducible refine stop_append ?_) | (with_reducible refine stop_copy ?_) | (with_reducible refine stop_make ?_) | (with_reducible refine stop_lookup ?_) | (with_reducible refine stop_update ?_) | (with_reducible refine stop_slice ?_) | (with_reducible refine stop_range ?_) | (with_reducible refine stop_next ?_) | (with_reducible refine stop_convert ⟨_, rfl⟩ ?_) | (with_reducible refine stop_convertB ⟨_, _, _, rfl⟩ ?_) | (with_reducible refine stop_eqSlice ⟨_, _, rfl⟩ ?_))
              refine (Cmr.out w9 hc49).mono ?_
              rintro e w11 ⟨rfl, hc11⟩
              have hcg := (hcf.trans hc49).trans hc11
              go_wp2_with (first | (with_reducible refine stop_append ?_) | (with_reducible refine stop_copy ?_) | (with_reducible refine stop_make ?_) | (with_reducible refine stop_lookup ?_) | (with_reducible refine stop_update ?_) | (with_reducible refine stop_slice ?_) | (with_reducible refine stop_range ?_) | (with_reducible refine stop_next ?_) | (with_reducible refine stop_convert ⟨_, rfl⟩ ?_) | (with_reducible refine stop_convertB ⟨_, _, _, rfl⟩ ?_) | (with_reducible refine stop_eqSlice ⟨_, _, rfl⟩ ?_))
              go_ret
              exact ⟨by simp, hcg⟩
end Go.Proofs.Ytnioljagmimojaa

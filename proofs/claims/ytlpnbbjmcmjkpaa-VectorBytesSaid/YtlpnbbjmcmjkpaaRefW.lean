/- Walks of the document's pack: what writes. -/
import Derived.Test.YtlpnbbjmcmjkpaaPackW
import Derived.Test.YtlpnbbjmcmjkpaaPlan
set_option linter.unusedVariables false
set_option linter.unusedSimpArgs false
namespace Go.Proofs.Ytlpnbbjmcmjkpaa
open Go.RowKit Cb

def str (l : List UInt8) : Value := .string ⟨l.toArray⟩
def numS (n : Int) : List UInt8 := if 0 ≤ n ∧ n ≤ 4611686018427387904 then encNat n.toNat else []
theorem byte_add (m : Nat) : ((128 + (m : Int) % 128 : Int)) = ((UInt8.ofNat (m % 128 + 128)).toNat : Int) := by
  simp [UInt8.toNat_ofNat']; omega
theorem tl_ne {a b : ByteArray} (h : ¬ a = b) : (a.toList == b.toList) = false := by
  rw [ByteArray.toList_eq, ByteArray.toList_eq]
  simp only [beq_eq_false_iff_ne]
  exact fun e => h (by rw [ByteArray.ext_iff]; exact Array.ext' e)
theorem tl_beq (a b : ByteArray) : (a.toList == b.toList) = decide (a = b) := by
  by_cases h : a = b
  · subst h; simp
  · rw [tl_ne h]; simp [h]
theorem ba_append (xs ys : List UInt8) : (⟨xs.toArray⟩ : ByteArray) ++ ⟨ys.toArray⟩ = ⟨(xs ++ ys).toArray⟩ := by
  rw [ByteArray.ext_iff, ByteArray.data_append]; simp
set_option maxRecDepth 100000 in
set_option maxHeartbeats 1000000 in
theorem refnum_nat (m : Nat) : m ≤ 4611686018427387904 → ∀ w, Calls Try.prog 54 #[.int .i64 m] w fun e w' => e = .returned (str (encNat m)) ∧ Chg No w w' := by
  induction m using Nat.strongRecOn with
  | ind m ih =>
    intro hm w
    by_cases hlt : m < 128
    · go_enter Try.func54, Try.ntmps54
      go_wp2_with (first | (with_reducible refine stop_append ?_) | (with_reducible refine stop_copy ?_) | (with_reducible refine stop_make ?_) | (with_reducible refine stop_lookup ?_) | (with_reducible refine stop_update ?_) | (with_reducible refine stop_slice ?_) | (with_reducible refine stop_range ?_) | (with_reducible refine stop_next ?_) | (with_reducible refine stop_convert ⟨_, rfl⟩ ?_) | (with_reducible refine stop_convertB ⟨_, _, _, rfl⟩ ?_) | (with_reducible refine stop_eqSlice ⟨_, _, rfl⟩ ?_))
      refine step_conv_bs Try.underlying36 Try.underlying5 Try.underlying9 rfl (Sl.lit1 (F := No) (y := UInt8.ofNat m) (by rw [byte_plain m hlt]) rfl (not_no _)) ?_
      go_wp2_with (first | (with_reducible refine stop_append ?_) | (with_reducible refine stop_copy ?_) | (with_reducible refine stop_make ?_) | (with_reducible refine stop_lookup ?_) | (with_reducible refine stop_update ?_) | (with_reducible refine stop_slice ?_) | (with_reducible refine stop_range ?_) | (with_reducible refine stop_next ?_) | (with_reducible refine stop_convert ⟨_, rfl⟩ ?_) | (with_reducible refine stop_convertB ⟨_, _, _, rfl⟩ ?_) | (with_reducible refine stop_eqSlice ⟨_, _, rfl⟩ ?_))
      go_ret
      exact ⟨by rw [encNat_lt m hlt]; rfl, (Chg.refl No w).alloc _⟩
    · have hge : 128 ≤ m := by omega
      have ihm : ∀ w, Calls Try.prog 54 #[.int .i64 ((m : Int) / 128)] w fun e w' => e = .returned (str (encNat (m / 128))) ∧ Chg No w w' := ih (m / 128) (by omega) (by omega)
      obtain ⟨s8, h8⟩ : ∃ s : ByteArray, s = ⟨(encNat (m / 128)).toArray⟩ := ⟨_, rfl⟩
      unfold str at ihm
      rw [← h8] at ihm
      have hs8 : s8.size ≤ 9 := by rw [h8]; simpa [ByteArray.size] using encNat_len9 (m / 128) (by omega)
      have H8 := Lib.hid h8; clear h8
      have Ih := Lib.hid ihm
      clear ih ihm
      go_enter Try.func54, Try.ntmps54
      go_wp2_with (first | (with_reducible refine stop_append ?_) | (with_reducible refine stop_copy ?_) | (with_reducible refine stop_make ?_) | (with_reducible refine stop_lookup ?_) | (with_reducible refine stop_update ?_) | (with_reducible refine stop_slice ?_) | (with_reducible refine stop_range ?_) | (with_reducible refine stop_next ?_) | (with_reducible refine stop_convert ⟨_, rfl⟩ ?_) | (with_reducible refine stop_convertB ⟨_, _, _, rfl⟩ ?_) | (with_reducible refine stop_eqSlice ⟨_, _, rfl⟩ ?_))
      refine rt_start (fun _ => True) (by kernel_rfl) ?_
      ((refine rt_yes (i := 0) (oi := { dst := some 15, op := Go.Op.move (Go.Operand.tmp 0), type := 3, pos := "ref.go:14", after := #[], guard := none }) (v := ?_) rfl (by kernel_rfl) (by kernel_rfl) (by kernel_rfl) (fun _ _ _ h => h) rfl ?_ ?_); rotate_left; focus (intro W hW; (try dsimp only at hW); go_split_ands; go_simp; (try (simp (disch := omega) only [IntWalk.i64_in]; (try go_simp))); (try (split; (next => omega); (try go_simp))); try rfl; done))
      try simp only [Act.put, List.setIfInBounds_toArray, List.set_cons_zero, List.set_cons_succ]
      ((refine rt_yes (i := 1) (oi := { dst := some 16, op := Go.Op.binOp Go.BinOp.rem 3 (Go.Operand.tmp 15) (Go.Operand.const (Go.Value.int Go.IntKind.i64 128)) 3, type := 3, pos := "ref.go:14", after := #[{ on := 0, ground := Go.Ground.data }], guard := none }) (v := ?_) rfl (by kernel_rfl) (by kernel_rfl) (by kernel_rfl) (fun _ _ _ h => h) rfl ?_ ?_); rotate_left; focus (intro W hW; (try dsimp only at hW); go_split_ands; go_simp; (try (simp (disch := omega) only [IntWalk.i64_in]; (try go_simp))); (try (split; (next => omega); (try go_simp))); try rfl; done))
      try simp only [Act.put, List.setIfInBounds_toArray, List.set_cons_zero, List.set_cons_succ]
      ((refine rt_yes (i := 2) (oi := { dst := some 17, op := Go.Op.binOp Go.BinOp.add 3 (Go.Operand.const (Go.Value.int Go.IntKind.i64 128)) (Go.Operand.tmp 16) 3, type := 3, pos := "ref.go:14", after := #[{ on := 1, ground := Go.Ground.data }], guard := none }) (v := ?_) rfl (by kernel_rfl) (by kernel_rfl) (by kernel_rfl) (fun _ _ _ h => h) rfl ?_ ?_); rotate_left; focus (intro W hW; (try dsimp only at hW); go_split_ands; go_simp; (try (simp (disch := omega) only [IntWalk.i64_in]; (try go_simp))); (try (split; (next => omega); (try go_simp))); try rfl; done))
      try simp only [Act.put, List.setIfInBounds_toArray, List.set_cons_zero, List.set_cons_succ]
      ((refine rt_yes (i := 3) (oi := { dst := some 18, op := Go.Op.convert 3 5 (Go.Operand.tmp 17), type := 5, pos := "ref.go:14", after := #[{ on := 2, ground := Go.Ground.data }], guard := none }) (v := ?_) rfl (by kernel_rfl) (by kernel_rfl) (by kernel_rfl) (fun _ _ _ h => h) rfl ?_ ?_); rotate_left; focus (intro W hW; (try dsimp only at hW); go_split_ands; go_simp; (try (simp (disch := omega) only [IntWalk.i64_in]; (try go_simp))); (try (split; (next => omega); (try go_simp))); try rfl; done))
      try simp only [Act.put, List.setIfInBounds_toArray, List.set_cons_zero, List.set_cons_succ]
      ((refine rt_yes (i := 6) (oi := { dst := some 21, op := Go.Op.move (Go.Operand.tmp 0), type := 3, pos := "ref.go:14", after := #[], guard := none }) (v := ?_) rfl (by kernel_rfl) (by kernel_rfl) (by kernel_rfl) (fun _ _ _ h => h) rfl ?_ ?_); rotate_left; focus (intro W hW; (try dsimp only at hW); go_split_ands; go_simp; (try (simp (disch := omega) only [IntWalk.i64_in]; (try go_simp))); (try (split; (next => omega); (try go_simp))); try rfl; done))
      try simp only [Act.put, List.setIfInBounds_toArray, List.set_cons_zero, List.set_cons_succ]
      ((refine rt_yes (i := 7) (oi := { dst := some 22, op := Go.Op.binOp Go.BinOp.quo 3 (Go.Operand.tmp 21) (Go.Operand.const (Go.Value.int Go.IntKind.i64 128)) 3, type := 3, pos := "ref.go:14", after := #[{ on := 6, ground := Go.Ground.data }], guard := none }) (v := ?_) rfl (by kernel_rfl) (by kernel_rfl) (by kernel_rfl) (fun _ _ _ h => h) rfl ?_ ?_); rotate_left; focus (intro W hW; (try dsimp only at hW); go_split_ands; go_simp; (try (simp (disch := omega) only [IntWalk.i64_in]; (try go_simp))); (try (split; (next => omega); (try go_simp))); try rfl; done))
      try simp only [Act.put, List.setIfInBounds_toArray, List.set_cons_zero, List.set_cons_succ]
      -- ready: [4, 8]
      have hb : IntKind.u8.wrap (IntKind.i64.wrap (128 + (m : Int).tmod 128)) = ((UInt8.ofNat (m % 128 + 128)).toNat : Int) := by
        rw [Int.tmod_eq_emod_of_nonneg (by omega), ← byte_add, IntWalk.i64_in _ (by omega), IntWalk.u8_in _ (by omega)]
      simp only [hb]
      clear hb
      obtain ⟨y, hy⟩ : ∃ y, y = UInt8.ofNat (m % 128 + 128) := ⟨_, rfl⟩
      rw [← hy]
      have Hy := Lib.hid hy; clear hy
      refine rt_two (i := 4) (j := 8) (oi := { dst := some 19, op := Go.Op.buildSlice 36 1 #[(0, Go.Operand.tmp 18)], type := 36, pos := "ref.go:14", after := #[{ on := 3, ground := Go.Ground.data }], guard := none }) (oj := { dst := some 23, op := Go.Op.call { callee := Go.Callee.value (Go.Operand.func 54), args := #[Go.Operand.tmp 22], argTypes := #[3] }, type := 9, pos := "ref.go:14", after := #[{ on := 7, ground := Go.Ground.data }], guard := none }) (by kernel_rfl) trivial rfl rfl rfl rfl (fun K hK => ?_) (fun K hK => ?_)
      · go_simp
        have hs4 := Sl.lit1 (F := No) (w := w) (T := 5) (y := y) (C := #[.int .u8 y.toNat]) rfl rfl (not_no _)
        have hc4 := ((Chg.refl No w).alloc (.cells #[.int .u8 y.toNat] 5)).drew
        generalize hw4 : w.alloc (.cells #[.int .u8 y.toNat] 5) = w4 at *
        generalize w.heap.size = q at *
        refine hK _ _ ?_
        clear hK K
        refine RT.weak (S' := fun W => Chg No w4.drew W) (fun _ _ => trivial) (rt_plan (by kernel_rfl) (Chg.refl _ _) ?_)
        obtain ⟨s5, h5⟩ : ∃ s : ByteArray, s = ⟨[y].toArray⟩ := ⟨_, rfl⟩
        have hs5 : s5.size = 1 := by rw [h5]; rfl
        have hs58 : ¬ (9223372036854775807 < s5.size + s8.size) := by omega
        have H5 := Lib.hid h5; clear h5
        -- ready: [5, 8]
        refine pl_yes (i := 5) (oi := { dst := some 20, op := Go.Op.convert 36 9 (Go.Operand.tmp 19), type := 9, pos := "ref.go:14", after := #[{ on := 4, ground := Go.Ground.data }], guard := none }) (v := (.string s5)) rfl (by kernel_rfl) (by kernel_rfl) rfl (by exact (fun W hW => H5.out ▸ run_conv_op rfl Try.underlying36 Try.underlying5 Try.underlying9 ((hs4.keepNo ((Chg.refl No w4).drew)).keepNo hW))) ?_
        try simp only [Act.put, List.setIfInBounds_toArray, List.set_cons_zero, List.set_cons_succ]
        -- ready: [8]
        refine pl_call (i := 8) (oi := { dst := some 23, op := Go.Op.call { callee := Go.Callee.value (Go.Operand.func 54), args := #[Go.Operand.tmp 22], argTypes := #[3] }, type := 9, pos := "ref.go:14", after := #[{ on := 7, ground := Go.Ground.data }], guard := none }) (.string s8) rfl (by kernel_rfl) (by kernel_rfl) rfl (by exact (fun W hW => (Ih.out W).mono (fun e w' h => ⟨h.1, hW.trans h.2⟩))) (fun W => by kernel_rfl) ?_
        try simp only [Act.put, List.setIfInBounds_toArray, List.set_cons_zero, List.set_cons_succ]
        ((refine pl_yes (i := 9) (oi := { dst := some 24, op := Go.Op.binOp Go.BinOp.add 9 (Go.Operand.tmp 20) (Go.Operand.tmp 23) 9, type := 9, pos := "ref.go:14", after := #[{ on := 5, ground := Go.Ground.data }, { on := 8, ground := Go.Ground.data }], guard := none }) (v := ?_) rfl (by kernel_rfl) (by kernel_rfl) rfl ?_ ?_); rotate_left; focus (intro W hW; (try dsimp only at hW); go_split_ands; go_simp; (try (simp (disch := omega) only [IntWalk.i64_in]; (try go_simp))); (try (split; (next => omega); (try go_simp))); try rfl; done))
        try simp only [Act.put, List.setIfInBounds_toArray, List.set_cons_zero, List.set_cons_succ]
        ((refine pl_yes (i := 10) (oi := { dst := some 2, op := Go.Op.assign (Go.Operand.tmp 24), type := 9, pos := "ref.go:14", after := #[{ on := 9, ground := Go.Ground.data }, { on := 8, ground := Go.Ground.chain }, { on := 0, ground := Go.Ground.phase }, { on := 1, ground := Go.Ground.phase }, { on := 2, ground := Go.Ground.phase }, { on := 3, ground := Go.Ground.phase }, { on := 4, ground := Go.Ground.phase }, { on := 5, ground := Go.Ground.phase }, { on := 6, ground := Go.Ground.phase }, { on := 7, ground := Go.Ground.phase }, { on := 8, ground := Go.Ground.phase }, { on := 9, ground := Go.Ground.phase }], guard := none }) (v := ?_) rfl (by kernel_rfl) (by kernel_rfl) rfl ?_ ?_); rotate_left; focus (intro W hW; (try dsimp only at hW); go_split_ands; go_simp; (try (simp (disch := omega) only [IntWalk.i64_in]; (try go_simp))); (try (split; (next => omega); (try go_simp))); try rfl; done))
        try simp only [Act.put, List.setIfInBounds_toArray, List.set_cons_zero, List.set_cons_succ]
        -- ready: []
        refine pl_done (by kernel_rfl)  ?_
        intro W hW
        go_wp2_with (first | (with_reducible refine stop_append ?_) | (with_reducible refine stop_copy ?_) | (with_reducible refine stop_make ?_) | (with_reducible refine stop_lookup ?_) | (with_reducible refine stop_update ?_) | (with_reducible refine stop_slice ?_) | (with_reducible refine stop_range ?_) | (with_reducible refine stop_next ?_) | (with_reducible refine stop_convert ⟨_, rfl⟩ ?_) | (with_reducible refine stop_convertB ⟨_, _, _, rfl⟩ ?_) | (with_reducible refine stop_eqSlice ⟨_, _, rfl⟩ ?_))
        go_ret
        exact ⟨by rw [encNat_ge m hge, ← Hy.out, H5.out, H8.out, ba_append]; rfl, hc4.trans hW⟩
      · go_simp
        refine (Ih.out _).mono ?_
        rintro e w5 ⟨rfl, hc5⟩
        simp only
        refine hK _ _ ?_
        clear hK K
        refine rt_k (fun _ => True) (i := 4) (oi := { dst := some 19, op := Go.Op.buildSlice 36 1 #[(0, Go.Operand.tmp 18)], type := 36, pos := "ref.go:14", after := #[{ on := 3, ground := Go.Ground.data }], guard := none }) (by kernel_rfl) trivial (fun _ h => h) rfl rfl (fun K hK => ?_)
        go_simp
        have hs4 := Sl.lit1 (F := No) (w := w5) (T := 5) (y := y) (C := #[.int .u8 y.toNat]) rfl rfl (not_no _)
        have hc4 := ((Chg.refl No w).drew.trans hc5).alloc (.cells #[.int .u8 y.toNat] 5)
        generalize hw4 : w5.alloc (.cells #[.int .u8 y.toNat] 5) = w4 at *
        generalize w5.heap.size = q at *
        refine hK _ _ ?_
        clear hK K
        refine RT.weak (S' := fun W => Chg No w4 W) (fun _ _ => trivial) (rt_plan (by kernel_rfl) (Chg.refl _ _) ?_)
        obtain ⟨s5, h5⟩ : ∃ s : ByteArray, s = ⟨[y].toArray⟩ := ⟨_, rfl⟩
        have hs5 : s5.size = 1 := by rw [h5]; rfl
        have hs58 : ¬ (9223372036854775807 < s5.size + s8.size) := by omega
        have H5 := Lib.hid h5; clear h5
        -- ready: [5]
        refine pl_yes (i := 5) (oi := { dst := some 20, op := Go.Op.convert 36 9 (Go.Operand.tmp 19), type := 9, pos := "ref.go:14", after := #[{ on := 4, ground := Go.Ground.data }], guard := none }) (v := (.string s5)) rfl (by kernel_rfl) (by kernel_rfl) rfl (by exact (fun W hW => H5.out ▸ run_conv_op rfl Try.underlying36 Try.underlying5 Try.underlying9 (hs4.keepNo hW))) ?_
        try simp only [Act.put, List.setIfInBounds_toArray, List.set_cons_zero, List.set_cons_succ]
        ((refine pl_yes (i := 9) (oi := { dst := some 24, op := Go.Op.binOp Go.BinOp.add 9 (Go.Operand.tmp 20) (Go.Operand.tmp 23) 9, type := 9, pos := "ref.go:14", after := #[{ on := 5, ground := Go.Ground.data }, { on := 8, ground := Go.Ground.data }], guard := none }) (v := ?_) rfl (by kernel_rfl) (by kernel_rfl) rfl ?_ ?_); rotate_left; focus (intro W hW; (try dsimp only at hW); go_split_ands; go_simp; (try (simp (disch := omega) only [IntWalk.i64_in]; (try go_simp))); (try (split; (next => omega); (try go_simp))); try rfl; done))
        try simp only [Act.put, List.setIfInBounds_toArray, List.set_cons_zero, List.set_cons_succ]
        ((refine pl_yes (i := 10) (oi := { dst := some 2, op := Go.Op.assign (Go.Operand.tmp 24), type := 9, pos := "ref.go:14", after := #[{ on := 9, ground := Go.Ground.data }, { on := 8, ground := Go.Ground.chain }, { on := 0, ground := Go.Ground.phase }, { on := 1, ground := Go.Ground.phase }, { on := 2, ground := Go.Ground.phase }, { on := 3, ground := Go.Ground.phase }, { on := 4, ground := Go.Ground.phase }, { on := 5, ground := Go.Ground.phase }, { on := 6, ground := Go.Ground.phase }, { on := 7, ground := Go.Ground.phase }, { on := 8, ground := Go.Ground.phase }, { on := 9, ground := Go.Ground.phase }], guard := none }) (v := ?_) rfl (by kernel_rfl) (by kernel_rfl) rfl ?_ ?_); rotate_left; focus (intro W hW; (try dsimp only at hW); go_split_ands; go_simp; (try (simp (disch := omega) only [IntWalk.i64_in]; (try go_simp))); (try (split; (next => omega); (try go_simp))); try rfl; done))
        try simp only [Act.put, List.setIfInBounds_toArray, List.set_cons_zero, List.set_cons_succ]
        -- ready: []
        refine pl_done (by kernel_rfl)  ?_
        intro W hW
        go_wp2_with (first | (with_reducible refine stop_append ?_) | (with_reducible refine stop_copy ?_) | (with_reducible refine stop_make ?_) | (with_reducible refine stop_lookup ?_) | (with_reducible refine stop_update ?_) | (with_reducible refine stop_slice ?_) | (with_reducible refine stop_range ?_) | (with_reducible refine stop_next ?_) | (with_reducible refine stop_convert ⟨_, rfl⟩ ?_) | (with_reducible refine stop_convertB ⟨_, _, _, rfl⟩ ?_) | (with_reducible refine stop_eqSlice ⟨_, _, rfl⟩ ?_))
        go_ret
        exact ⟨by rw [encNat_ge m hge, ← Hy.out, H5.out, H8.out, ba_append]; rfl, hc4.trans hW⟩
theorem refnum_any (n : Int) (w : World) : Calls Try.prog 54 #[.int .i64 n] w fun e w' => e = .returned (str (numS n)) ∧ Chg No w w' := by
  by_cases h : 0 ≤ n ∧ n ≤ 4611686018427387904
  · obtain ⟨m, rfl⟩ := Int.eq_ofNat_of_zero_le h.1
    unfold numS; rw [if_pos h]
    exact refnum_nat m (by omega) w
  · unfold numS; rw [if_neg h]
    rcases (by omega : n < 0 ∨ 4611686018427387904 < n) with h | h
    all_goals
      go_enter Try.func54, Try.ntmps54
      go_wp2_with (first | (with_reducible refine stop_append ?_) | (with_reducible refine stop_copy ?_) | (with_reducible refine stop_make ?_) | (with_reducible refine stop_lookup ?_) | (with_reducible refine stop_update ?_) | (with_reducible refine stop_slice ?_) | (with_reducible refine stop_range ?_) | (with_reducible refine stop_next ?_) | (with_reducible refine stop_convert ⟨_, rfl⟩ ?_) | (with_reducible refine stop_convertB ⟨_, _, _, rfl⟩ ?_) | (with_reducible refine stop_eqSlice ⟨_, _, rfl⟩ ?_))
      go_ret
      exact ⟨rfl, Chg.refl _ _⟩
theorem size_enc {s : ByteArray} {m : Nat} (h : s = ⟨(encNat m).toArray⟩) (hm : m ≤ 4611686018427387904) : s.size ≤ 9 := by
  rw [h]; simpa [ByteArray.size] using encNat_len9 m hm
end Go.Proofs.Ytlpnbbjmcmjkpaa

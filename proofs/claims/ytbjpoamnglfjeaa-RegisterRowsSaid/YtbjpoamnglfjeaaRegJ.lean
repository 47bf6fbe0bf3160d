/- Walks of package register: many. -/
import Derived.Test.YtbjpoamnglfjeaaRegI
import Derived.Test.YtbjpoamnglfjeaaRegE
set_option linter.unusedVariables false
set_option linter.unusedSimpArgs false
namespace Go.Proofs.Ytbjpoamnglfjeaa
open Go.RowKit Cb

theorem lastF_len (l : List Ent) (n : Nat) (hn : n ≤ 8) (hb : ∀ e ∈ l, e.2.2.1.length ≤ 1000000) : (lastF l n).length ≤ 1000000 := by
  unfold lastF
  have : ∀ (ls : List Ent) (z : List Int), (∀ e ∈ ls, e.2.2.1.length ≤ 1000000) → z.length ≤ 1000000 → (ls.foldl lastE z).length ≤ 1000000 := by
    intro ls
    induction ls with
    | nil => intro z _ hz; exact hz
    | cons e r ih =>
      intro z h hz
      refine ih _ (fun x hx => h x (List.mem_cons_of_mem _ hx)) ?_
      unfold lastE
      split
      · exact h e (List.mem_cons_self ..)
      · exact hz
  exact this _ _ (fun e he => hb e (List.mem_of_mem_take he)) (by simp; omega)
set_option maxRecDepth 100000 in
set_option maxHeartbeats 1000000 in
theorem many_any (g o n cs : Nat) (vt As : Value) (l : List Ent) (A : Option Addr) (w : World) (hs : w.cell? ⟨g, o + 2, none⟩ = some (.slice A n cs)) (ht : w.cell? ⟨g, o + 3, none⟩ = some vt) (hsl : Sl No w vt l) (hl : l.length ≤ 2199023255488) (hb : ∀ e ∈ l, e.2.2.1.length ≤ 1000000) (h1 : 1 ≤ n) (h8 : n ≤ 8) :
    Calls Try.prog 73 #[.pointer (some ⟨g, o, none⟩)] w fun e w' => e = .returned (.int .i64 (total (lastF l n))) ∧ Chg No w w' := by
  have Hlast := Lib.hid (fun W (hW : Chg No w W) => last_any vt l n W (hsl.keepNo hW) hl hb h1 h8)
  have hll := lastF_len l n h8 hb
  obtain ⟨Al, cl, rfl⟩ := hsl.slice
  clear hsl hb
  generalize lastF l n = R at *
  go_enter Try.func73, Try.ntmps73
  go_wp2_with (first | (with_reducible refine stop_append ?_) | (with_reducible refine stop_copy ?_) | (with_reducible refine stop_make ?_) | (with_reducible refine stop_lookup ?_) | (with_reducible refine stop_update ?_) | (with_reducible refine stop_slice ?_) | (with_reducible refine stop_range ?_) | (with_reducible refine stop_next ?_) | (with_reducible refine stop_convert ⟨_, rfl⟩ ?_) | (with_reducible refine stop_convertB ⟨_, _, _, rfl⟩ ?_) | (with_reducible refine stop_eqSlice ⟨_, _, rfl⟩ ?_))
  have HS := Lib.hid (show ∀ W, Chg No w W → (fun W => W.cell? ⟨g, o + 2, none⟩ = some (.slice A n cs) ∧ W.cell? ⟨g, o + 3, none⟩ = some (.slice Al l.length cl)) W from fun W hW => ⟨hW.cell hs (not_no _), hW.cell ht (not_no _)⟩)
  have cd := (Chg.refl No w).drew
  refine rt_start (fun W => W.cell? ⟨g, o + 2, none⟩ = some (.slice A n cs) ∧ W.cell? ⟨g, o + 3, none⟩ = some (.slice Al l.length cl)) (by kernel_rfl) ?_
  ((refine rt_yes (i := 0) (oi := { dst := some 3, op := Go.Op.move (Go.Operand.tmp 0), type := 139, pos := "register.go:103", after := #[], guard := none }) (v := ?_) rfl (by kernel_rfl) (by kernel_rfl) (by kernel_rfl) (fun _ _ _ h => h) rfl ?_ ?_); rotate_left; focus (intro W hW; (try dsimp only at hW); go_split_ands; go_simp; (try (simp (disch := omega) only [IntWalk.i64_in]; (try go_simp))); (try (split; (next => omega); (try go_simp))); try rfl; done))
  try simp only [Act.put, List.setIfInBounds_toArray, List.set_cons_zero, List.set_cons_succ]
  ((refine rt_yes (i := 1) (oi := { dst := some 4, op := Go.Op.nilCheck (Go.Operand.tmp 3), type := 0, pos := "register.go:103", after := #[{ on := 0, ground := Go.Ground.data }], guard := none }) (v := ?_) rfl (by kernel_rfl) (by kernel_rfl) (by kernel_rfl) (fun _ _ _ h => h) rfl ?_ ?_); rotate_left; focus (intro W hW; (try dsimp only at hW); go_split_ands; go_simp; (try (simp (disch := omega) only [IntWalk.i64_in]; (try go_simp))); (try (split; (next => omega); (try go_simp))); try rfl; done))
  try simp only [Act.put, List.setIfInBounds_toArray, List.set_cons_zero, List.set_cons_succ]
  ((refine rt_yes (i := 2) (oi := { dst := some 5, op := Go.Op.fieldAddr 88 (Go.Operand.tmp 4) 1, type := 0, pos := "register.go:103", after := #[{ on := 1, ground := Go.Ground.data }], guard := none }) (v := ?_) rfl (by kernel_rfl) (by kernel_rfl) (by kernel_rfl) (fun _ _ _ h => h) rfl ?_ ?_); rotate_left; focus (intro W hW; (try dsimp only at hW); go_split_ands; go_simp; (try (simp (disch := omega) only [IntWalk.i64_in]; (try go_simp))); (try (split; (next => omega); (try go_simp))); try rfl; done))
  try simp only [Act.put, List.setIfInBounds_toArray, List.set_cons_zero, List.set_cons_succ]
  ((refine rt_yes (i := 3) (oi := { dst := some 6, op := Go.Op.load 28 (Go.Operand.tmp 5), type := 28, pos := "register.go:103", after := #[{ on := 2, ground := Go.Ground.data }], guard := none }) (v := ?_) rfl (by kernel_rfl) (by kernel_rfl) (by kernel_rfl) (fun _ _ _ h => h) rfl ?_ ?_); rotate_left; focus (intro W hW; (try dsimp only at hW); go_split_ands; go_simp; (try (simp (disch := omega) only [IntWalk.i64_in]; (try go_simp))); (try (split; (next => omega); (try go_simp))); try rfl; done))
  try simp only [Act.put, List.setIfInBounds_toArray, List.set_cons_zero, List.set_cons_succ]
  ((refine rt_yes (i := 4) (oi := { dst := some 7, op := Go.Op.move (Go.Operand.tmp 0), type := 139, pos := "register.go:103", after := #[], guard := none }) (v := ?_) rfl (by kernel_rfl) (by kernel_rfl) (by kernel_rfl) (fun _ _ _ h => h) rfl ?_ ?_); rotate_left; focus (intro W hW; (try dsimp only at hW); go_split_ands; go_simp; (try (simp (disch := omega) only [IntWalk.i64_in]; (try go_simp))); (try (split; (next => omega); (try go_simp))); try rfl; done))
  try simp only [Act.put, List.setIfInBounds_toArray, List.set_cons_zero, List.set_cons_succ]
  ((refine rt_yes (i := 5) (oi := { dst := some 8, op := Go.Op.nilCheck (Go.Operand.tmp 7), type := 0, pos := "register.go:103", after := #[{ on := 4, ground := Go.Ground.data }], guard := none }) (v := ?_) rfl (by kernel_rfl) (by kernel_rfl) (by kernel_rfl) (fun _ _ _ h => h) rfl ?_ ?_); rotate_left; focus (intro W hW; (try dsimp only at hW); go_split_ands; go_simp; (try (simp (disch := omega) only [IntWalk.i64_in]; (try go_simp))); (try (split; (next => omega); (try go_simp))); try rfl; done))
  try simp only [Act.put, List.setIfInBounds_toArray, List.set_cons_zero, List.set_cons_succ]
  ((refine rt_yes (i := 6) (oi := { dst := some 9, op := Go.Op.fieldAddr 88 (Go.Operand.tmp 8) 0, type := 0, pos := "register.go:103", after := #[{ on := 5, ground := Go.Ground.data }], guard := none }) (v := ?_) rfl (by kernel_rfl) (by kernel_rfl) (by kernel_rfl) (fun _ _ _ h => h) rfl ?_ ?_); rotate_left; focus (intro W hW; (try dsimp only at hW); go_split_ands; go_simp; (try (simp (disch := omega) only [IntWalk.i64_in]; (try go_simp))); (try (split; (next => omega); (try go_simp))); try rfl; done))
  try simp only [Act.put, List.setIfInBounds_toArray, List.set_cons_zero, List.set_cons_succ]
  ((refine rt_yes (i := 7) (oi := { dst := some 10, op := Go.Op.fieldAddr 68 (Go.Operand.tmp 9) 2, type := 0, pos := "register.go:103", after := #[{ on := 6, ground := Go.Ground.data }], guard := none }) (v := ?_) rfl (by kernel_rfl) (by kernel_rfl) (by kernel_rfl) (fun _ _ _ h => h) rfl ?_ ?_); rotate_left; focus (intro W hW; (try dsimp only at hW); go_split_ands; go_simp; (try (simp (disch := omega) only [IntWalk.i64_in]; (try go_simp))); (try (split; (next => omega); (try go_simp))); try rfl; done))
  try simp only [Act.put, List.setIfInBounds_toArray, List.set_cons_zero, List.set_cons_succ]
  ((refine rt_yes (i := 8) (oi := { dst := some 11, op := Go.Op.load 61 (Go.Operand.tmp 10), type := 61, pos := "register.go:103", after := #[{ on := 7, ground := Go.Ground.data }], guard := none }) (v := ?_) rfl (by kernel_rfl) (by kernel_rfl) (by kernel_rfl) (fun _ _ _ h => h) rfl ?_ ?_); rotate_left; focus (intro W hW; (try dsimp only at hW); go_split_ands; go_simp; (try (simp (disch := omega) only [IntWalk.i64_in]; (try go_simp))); (try (split; (next => omega); (try go_simp))); try rfl; done))
  try simp only [Act.put, List.setIfInBounds_toArray, List.set_cons_zero, List.set_cons_succ]
  ((refine rt_yes (i := 9) (oi := { dst := some 12, op := Go.Op.call { callee := Go.Callee.builtin Go.Builtin.len, args := #[Go.Operand.tmp 11], argTypes := #[61] }, type := 3, pos := "register.go:103", after := #[{ on := 8, ground := Go.Ground.data }], guard := none }) (v := ?_) rfl (by kernel_rfl) (by kernel_rfl) (by kernel_rfl) (fun _ _ _ h => h) rfl ?_ ?_); rotate_left; focus (intro W hW; (try dsimp only at hW); go_split_ands; go_simp; (try (simp (disch := omega) only [IntWalk.i64_in]; (try go_simp))); (try (split; (next => omega); (try go_simp))); try rfl; done))
  try simp only [Act.put, List.setIfInBounds_toArray, List.set_cons_zero, List.set_cons_succ]
  -- ready: [10]
  refine rt_k (fun W => W.cell? ⟨g, o + 2, none⟩ = some (.slice A n cs) ∧ W.cell? ⟨g, o + 3, none⟩ = some (.slice Al l.length cl)) (i := 10) (oi := { dst := some 13, op := Go.Op.call { callee := Go.Callee.value (Go.Operand.func 99), args := #[Go.Operand.tmp 6, Go.Operand.tmp 12], argTypes := #[28, 3] }, type := 46, pos := "register.go:103", after := #[{ on := 3, ground := Go.Ground.data }, { on := 9, ground := Go.Ground.data }], guard := none }) (by kernel_rfl) (HS.out _ cd) (fun _ h => h) rfl (by rfl) (fun K hK => ?_)
  go_simp
  refine (Hlast.out _ cd).mono ?_
  rintro e w3 ⟨vn, rfl, hc3, hsn⟩
  have cd3 := cd.trans hc3
  have Htot := Lib.hid (vtotal_any _ _ R w3 hsn (by omega))
  obtain ⟨An, cn, rfl⟩ := hsn.slice
  clear hsn
  refine hK _ _ ?_
  clear hK K
  try simp only [Act.put, List.setIfInBounds_toArray, List.set_cons_zero, List.set_cons_succ]
  -- ready: [11]
  refine rt_k (fun W => W.cell? ⟨g, o + 2, none⟩ = some (.slice A n cs) ∧ W.cell? ⟨g, o + 3, none⟩ = some (.slice Al l.length cl)) (i := 11) (oi := { dst := some 14, op := Go.Op.call { callee := Go.Callee.value (Go.Operand.func 64), args := #[Go.Operand.tmp 13], argTypes := #[46] }, type := 3, pos := "register.go:103", after := #[{ on := 10, ground := Go.Ground.data }, { on := 10, ground := Go.Ground.chain }], guard := none }) (by kernel_rfl) (HS.out _ cd3) (fun _ h => h) rfl (by rfl) (fun K hK => ?_)
  go_simp
  refine Htot.out.mono ?_
  rintro e w4 ⟨rfl, hc4⟩
  have cd4 := cd3.trans hc4
  refine hK _ _ ?_
  clear hK K
  try simp only [Act.put, List.setIfInBounds_toArray, List.set_cons_zero, List.set_cons_succ]
  -- ready: [12]
  refine rt_k (fun W => W.cell? ⟨g, o + 2, none⟩ = some (.slice A n cs) ∧ W.cell? ⟨g, o + 3, none⟩ = some (.slice Al l.length cl)) (i := 12) (oi := { dst := some 2, op := Go.Op.assign (Go.Operand.tmp 14), type := 3, pos := "register.go:103", after := #[{ on := 11, ground := Go.Ground.data }, { on := 11, ground := Go.Ground.chain }, { on := 0, ground := Go.Ground.phase }, { on := 1, ground := Go.Ground.phase }, { on := 2, ground := Go.Ground.phase }, { on := 3, ground := Go.Ground.phase }, { on := 4, ground := Go.Ground.phase }, { on := 5, ground := Go.Ground.phase }, { on := 6, ground := Go.Ground.phase }, { on := 7, ground := Go.Ground.phase }, { on := 8, ground := Go.Ground.phase }, { on := 9, ground := Go.Ground.phase }, { on := 10, ground := Go.Ground.phase }, { on := 11, ground := Go.Ground.phase }], guard := none }) (by kernel_rfl) (HS.out _ cd4) (fun _ h => h) rfl (by rfl) (fun K hK => ?_)
  go_simp
  refine hK _ _ ?_
  clear hK K
  try simp only [Act.put, List.setIfInBounds_toArray, List.set_cons_zero, List.set_cons_succ]
  -- ready: []
  refine rt_done (by kernel_rfl)  ?_
  go_wp2_with (first | (with_reducible refine stop_append ?_) | (with_reducible refine stop_copy ?_) | (with_reducible refine stop_make ?_) | (with_reducible refine stop_lookup ?_) | (with_reducible refine stop_update ?_) | (with_reducible refine stop_slice ?_) | (with_reducible refine stop_range ?_) | (with_reducible refine stop_next ?_) | (with_reducible refine stop_convert ⟨_, rfl⟩ ?_) | (with_reducible refine stop_convertB ⟨_, _, _, rfl⟩ ?_) | (with_reducible refine stop_eqSlice ⟨_, _, rfl⟩ ?_))
  go_ret
  exact ⟨rfl, cd3.trans hc4⟩
end Go.Proofs.Ytbjpoamnglfjeaa

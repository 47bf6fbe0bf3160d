/- Walks of the register's laws: alive. -/
import Derived.Test.YtbjpoamnglfjeaaRegV
set_option linter.unusedVariables false
set_option linter.unusedSimpArgs false
namespace Go.Proofs.Ytbjpoamnglfjeaa
open Go.RowKit Cb

theorem num1_sl (w : World) (x : Int) (T : TypeId) : Sl No (w.alloc (.cells #[.int .i64 x] T)) (.slice (some ⟨w.heap.size, 0, none⟩) 1 1) [x] :=
  Sl.lit1 (F := No) (y := x) rfl rfl (not_no _)
def arW (w : World) (T U : TypeId) : World := ((w.alloc (.cells #[.int .i64 0] T)).alloc (.cells #[.int .i64 1] T)).alloc (.cells #[.slice (some ⟨w.heap.size + 1, 0, none⟩) 1 1] U)
theorem ar_world (w : World) (T U : TypeId) : Sl No (arW w T U) (.slice (some ⟨w.heap.size, 0, none⟩) 1 1) [(0 : Int)] ∧ Sl No (arW w T U) (.slice (some ⟨w.heap.size + 1 + 1, 0, none⟩) 1 1) [[(1 : Int)]] ∧ Chg No w (arW w T U) ∧ (arW w T U).heap.size = w.heap.size + 1 + 1 + 1 := by
  have h1 := num1_sl w 0 T
  have h2 := num1_sl (w.alloc (.cells #[.int .i64 0] T)) 1 T
  simp only [World.size_alloc] at h2
  have h1 := (h1.keepNo ((Chg.refl No _).alloc (.cells #[.int .i64 1] T))).keepNo ((Chg.refl No _).alloc (.cells #[.slice (some ⟨w.heap.size + 1, 0, none⟩) 1 1] U))
  have h3 := Sl.lit1 (F := No) (w := (w.alloc (.cells #[.int .i64 0] T)).alloc (.cells #[.int .i64 1] T)) (T := U) (y := [(1 : Int)]) (d := [.slice (some ⟨w.heap.size + 1, 0, none⟩) 1 1]) rfl ⟨_, rfl, h2⟩ (not_no _)
  simp only [World.size_alloc] at h3
  exact ⟨h1, h3, (((Chg.refl No w).alloc _).alloc _).alloc _, by simp [arW]⟩
def arR0 : List Rw := [(1, [0], [[1]], [], false)]
def arL : List Ent := [(1, 1, [3], 0, 0, 0)]
def arR1 : List Rw := [(1, [0], [[1]], arL, true), (2, [0], [[1]], [], false)]
theorem ar_inst : installF arR0 2 [0] [[1]] arL = (0, arR1) := by kernel_rfl
theorem ar_other : installF arR1 2 [0] [[1]] [] = (140, arR1) := by kernel_rfl
theorem ar_start : startF arR1 1 = 3 := by kernel_rfl
theorem ar_find : findF arR1 4 = some (2, 1) := by kernel_rfl
theorem ar_right : rightC 1 [0] [[1]] = true := by kernel_rfl
theorem ar_rows0 : RowsI arR0 := ⟨by decide, by decide, fun i h => by
  match i, h with
  | 0, _ => exact ⟨rfl, ar_right, by simp [arR0, TailB]⟩⟩
theorem ar_tail : TailI arL := ⟨by decide, fun e he => by
  simp only [arL, List.mem_cons, List.not_mem_nil, or_false] at he
  subst he; decide⟩
theorem ar_rows1 : RowsI arR1 := by have := (install_rows (t := 2) (q := [0]) (s := [[1]]) ar_rows0 ar_tail).1; rwa [ar_inst] at this
theorem ar_cfg : CfgI [0] [[1]] := ⟨by decide, by decide, fun x hx => by
  simp only [List.mem_cons, List.not_mem_nil, or_false] at hx
  subst hx; decide⟩
theorem arl_sl (w : World) (n : Nat) (hn : w.heap.size = n) (T U : TypeId) : Sl No ((w.alloc (.cells #[.int .i64 3] T)).alloc (.cells #[.int .i64 1, .int .i64 1, .slice (some ⟨n, 0, none⟩) 1 1, .int .i64 0, .int .i64 0, .int .i64 0] U)) (.slice (some ⟨n + 1, 0, none⟩) 1 1) arL ∧
    Chg No w ((w.alloc (.cells #[.int .i64 3] T)).alloc (.cells #[.int .i64 1, .int .i64 1, .slice (some ⟨n, 0, none⟩) 1 1, .int .i64 0, .int .i64 0, .int .i64 0] U)) := by
  subst hn
  have h1 := num1_sl w 3 T
  have h3 := Sl.lit1 (F := No) (w := w.alloc (.cells #[.int .i64 3] T)) (T := U) (y := ((1, 1, [3], 0, 0, 0) : Ent)) (d := entC (1, 1, [3], 0, 0, 0) (.slice (some ⟨w.heap.size, 0, none⟩) 1 1)) rfl (ent_mk _ h1) (not_no _)
  simp only [World.size_alloc] at h3
  exact ⟨h3, ((Chg.refl No w).alloc _).alloc _⟩
set_option maxRecDepth 100000 in
set_option maxHeartbeats 4000000 in
theorem ralive_any (w : World) : Calls Try.prog 32 #[] w fun e w' => e = .returned (.bool true) ∧ Chg No w w' := by
  obtain ⟨hq, hs, hc0, hz0⟩ := ar_world w 3 46
  go_enter Try.func32, Try.ntmps32
  have hwz : w.heap.size ≤ (arW w 3 46).heap.size := hc0.size
  have o1 := alloc_obj (arW w 3 46) (.cells #[.int .i64 1, .slice (some ⟨w.heap.size, 0, none⟩) 1 1, .slice (some ⟨w.heap.size + 1 + 1, 0, none⟩) 1 1] 68)
  have hca := (Chg.refl No (arW w 3 46)).alloc (.cells #[.int .i64 1, .slice (some ⟨w.heap.size, 0, none⟩) 1 1, .slice (some ⟨w.heap.size + 1 + 1, 0, none⟩) 1 1] 68)
  have hz1 : ((arW w 3 46).alloc (.cells #[.int .i64 1, .slice (some ⟨w.heap.size, 0, none⟩) 1 1, .slice (some ⟨w.heap.size + 1 + 1, 0, none⟩) 1 1] 68)).heap.size = w.heap.size + 1 + 1 + 1 + 1 := by simp [hz0]
  have Hq := Lib.hid ((Sl.up hq (Nat.le_refl _)).keepNo hca)
  have Hs := Lib.hid ((Sl.up hs (Nat.le_refl _)).keepNo hca)
  rw [hz0] at o1 Hq Hs
  clear hq hs hz0
  have hcw := hc0.trans hca
  clear hca hc0 hwz
  have a0 := cell_obj (i := 0) o1 rfl
  have a1 := cell_obj (i := 1) o1 rfl
  have a2 := cell_obj (i := 2) o1 rfl
  unfold arW at *
  go_wp2_with (first | (with_reducible refine stop_append ?_) | (with_reducible refine stop_copy ?_) | (with_reducible refine stop_make ?_) | (with_reducible refine stop_lookup ?_) | (with_reducible refine stop_update ?_) | (with_reducible refine stop_slice ?_) | (with_reducible refine stop_range ?_) | (with_reducible refine stop_next ?_) | (with_reducible refine stop_convert ⟨_, rfl⟩ ?_) | (with_reducible refine stop_convertB ⟨_, _, _, rfl⟩ ?_) | (with_reducible refine stop_eqSlice ⟨_, _, rfl⟩ ?_))
  generalize ((((w.alloc (.cells #[.int .i64 0] 3)).alloc (.cells #[.int .i64 1] 3)).alloc (.cells #[.slice (some ⟨w.heap.size + 1, 0, none⟩) 1 1] 46)).alloc (.cells #[.int .i64 1, .slice (some ⟨w.heap.size, 0, none⟩) 1 1, .slice (some ⟨w.heap.size + 1 + 1, 0, none⟩) 1 1] 68)) = w1 at *
  obtain ⟨b, hb⟩ : ∃ b, b = w.heap.size + 1 + 1 + 1 := ⟨_, rfl⟩
  rw [← hb] at a0 a1 a2 o1 Hq Hs hz1 ⊢
  obtain ⟨vq, hvq⟩ : ∃ v : Value, v = .slice (some ⟨w.heap.size, 0, none⟩) 1 1 := ⟨_, rfl⟩
  obtain ⟨vs, hvs⟩ : ∃ v : Value, v = .slice (some ⟨w.heap.size + 1 + 1, 0, none⟩) 1 1 := ⟨_, rfl⟩
  have Hb := Lib.hid hb
  have hN := Lib.hid (new_yes 1 (.slice (some ⟨w.heap.size, 0, none⟩) 1 1) (.slice (some ⟨w.heap.size + 1 + 1, 0, none⟩) 1 1) [0] [[1]] w1 Hq.out.no Hs.out.no ar_right)
  unfold cfgV at hN
  clear hb
  refine hN.out.mono ?_
  rintro e w2 ⟨p, rfl, hc2, hreg⟩
  have hzb : w1.heap.size = b + 1 := hz1
  have hBp : w1.heap.size ≤ p := by obtain ⟨_, _, h, _⟩ := hreg; exact h
  replace a0 := hc2.cell a0 (not_no _)
  replace a1 := hc2.cell a1 (not_no _)
  replace a2 := hc2.cell a2 (not_no _)
  have o2 := hc2.obj o1 (not_no _)
  have f0 := free_obj (i := 0) o2
  have Hreg := Lib.hid hreg
  clear hreg hN o1
  go_wp2_with (first | (with_reducible refine stop_append ?_) | (with_reducible refine stop_copy ?_) | (with_reducible refine stop_make ?_) | (with_reducible refine stop_lookup ?_) | (with_reducible refine stop_update ?_) | (with_reducible refine stop_slice ?_) | (with_reducible refine stop_range ?_) | (with_reducible refine stop_next ?_) | (with_reducible refine stop_convert ⟨_, rfl⟩ ?_) | (with_reducible refine stop_convertB ⟨_, _, _, rfl⟩ ?_) | (with_reducible refine stop_eqSlice ⟨_, _, rfl⟩ ?_))
  have h23 : Chg (Ge b) w2 (w2.setCell ⟨b, 0, none⟩ (.int .i64 2)) := chg_ge _
  have h23' : Chg (At b) w2 (w2.setCell ⟨b, 0, none⟩ (.int .i64 2)) := chg_set _
  obtain ⟨hl5, h35⟩ := arl_sl (w2.setCell ⟨b, 0, none⟩ (.int .i64 2)) w2.heap.size (by simp) 3 58
  have o5 := h35.obj (obj_set (i := 0) (u := .int .i64 2) o2 rfl) (not_no _)
  have hreg5 := (Hreg.out.keep h23' (fun k _ hk => by simp only [At] at hk; omega)).keepNo h35
  have hq5 := ((Hq.out.keepNo hc2).keep h23).keepNo h35
  have hs5 := ((Hs.out.keepNo hc2).keep h23).keepNo h35
  have h25 : Chg (At b) w2 ((((w2.setCell ⟨b, 0, none⟩ (.int .i64 2))).alloc (.cells #[.int .i64 3] 3)).alloc (.cells #[.int .i64 1, .int .i64 1, .slice (some ⟨w2.heap.size, 0, none⟩) 1 1, .int .i64 0, .int .i64 0, .int .i64 0] 58)) := h23'.trans h35.of_no
  generalize ((((w2.setCell ⟨b, 0, none⟩ (.int .i64 2))).alloc (.cells #[.int .i64 3] 3)).alloc (.cells #[.int .i64 1, .int .i64 1, .slice (some ⟨w2.heap.size, 0, none⟩) 1 1, .int .i64 0, .int .i64 0, .int .i64 0] 58)) = w5 at *
  clear h23 h23' h35 Hq Hs a0 a1 a2 o2 f0 Hreg
  have hq6 : Sl (Ge w1.heap.size) w5 (.slice (some ⟨w.heap.size, 0, none⟩) 1 1) [(0 : Int)] := hq5.weak (fun k _ hk => by simp only [Ge] at hk ⊢; omega)
  have hs6 : Sl (Ge w1.heap.size) w5 (.slice (some ⟨w.heap.size + 1 + 1, 0, none⟩) 1 1) [[(1 : Int)]] := hs5.weak (fun k _ hk => by simp only [Ge] at hk ⊢; omega)
  have c0 := cell_obj (i := 0) o5 (u := .int .i64 2) rfl
  have c1 := cell_obj (i := 1) o5 (u := .slice (some ⟨w.heap.size, 0, none⟩) 1 1) rfl
  have c2 := cell_obj (i := 2) o5 (u := .slice (some ⟨w.heap.size + 1 + 1, 0, none⟩) 1 1) rfl
  have Hi1 := Lib.hid (fun W (hW : Chg No w5 W) => install_any w1.heap.size p arR0 2 _ _ _ [0] [[1]] arL W (hreg5.keepNo hW) ar_rows0 (hq6.keepNo hW) (hs6.keepNo hW) (hl5.keepNo hW) ar_cfg ar_tail)
  simp only [ar_inst] at Hi1
  have Hi2 := Lib.hid (fun W (hW : Chg (Ge w1.heap.size) w5 W) (hr : RegS W w1.heap.size p arR1) => install_any w1.heap.size p arR1 2 _ _ (.slice none 0 0) [0] [[1]] [] W hr ar_rows1 (hq6.keep hW) (hs6.keep hW) (Sl.nil _ _ _ _) ar_cfg ⟨by decide, fun e he => by cases he⟩)
  simp only [ar_other] at Hi2
  unfold cfgV at Hi1 Hi2
  have hbB : ¬ Ge w1.heap.size b := fun h => by simp only [Ge] at h; omega
  have HS := Lib.hid (show ∀ W, Chg (Ge w1.heap.size) w5 W → (fun W => W.cell? ⟨b, 0, none⟩ = some (.int .i64 2) ∧ W.cell? ⟨b, 1, none⟩ = some (.slice (some ⟨w.heap.size, 0, none⟩) 1 1) ∧ W.cell? ⟨b, 2, none⟩ = some (.slice (some ⟨w.heap.size + 1 + 1, 0, none⟩) 1 1)) W from fun W hW => ⟨hW.cell c0 hbB, hW.cell c1 hbB, hW.cell c2 hbB⟩)
  have cd := (Chg.refl No w5).drew
  have Hreg5 := Lib.hid (fun W (hW : Chg No w5 W) => hreg5.keepNo hW)
  clear hq5 hs5 hl5 hq6 hs6 c0 c1 c2 o5 hreg5
  refine rt_start (fun W => W.cell? ⟨b, 0, none⟩ = some (.int .i64 2) ∧ W.cell? ⟨b, 1, none⟩ = some (.slice (some ⟨w.heap.size, 0, none⟩) 1 1) ∧ W.cell? ⟨b, 2, none⟩ = some (.slice (some ⟨w.heap.size + 1 + 1, 0, none⟩) 1 1)) (by kernel_rfl) ?_
  ((refine rt_yes (i := 0) (oi := { dst := some 30, op := Go.Op.move (Go.Operand.tmp 2), type := 65, pos := "law.go:40", after := #[], guard := none }) (v := ?_) rfl (by kernel_rfl) (by kernel_rfl) (by kernel_rfl) (fun _ _ _ h => h) rfl ?_ ?_); rotate_left; focus (intro W hW; (try dsimp only at hW); go_split_ands; go_simp; (try (simp (disch := omega) only [IntWalk.i64_in]; (try go_simp))); (try (split; (next => omega); (try go_simp))); try rfl; done))
  try simp only [Act.put, List.setIfInBounds_toArray, List.set_cons_zero, List.set_cons_succ]
  ((refine rt_yes (i := 1) (oi := { dst := some 31, op := Go.Op.load 68 (Go.Operand.tmp 1), type := 68, pos := "law.go:40", after := #[], guard := none }) (v := ?_) rfl (by kernel_rfl) (by kernel_rfl) (by kernel_rfl) (fun _ _ _ h => h) rfl ?_ ?_); rotate_left; focus (intro W hW; (try dsimp only at hW); go_split_ands; go_simp; (try (simp (disch := omega) only [IntWalk.i64_in]; (try go_simp))); (try (split; (next => omega); (try go_simp))); try rfl; done))
  try simp only [Act.put, List.setIfInBounds_toArray, List.set_cons_zero, List.set_cons_succ]
  ((refine rt_yes (i := 2) (oi := { dst := some 32, op := Go.Op.move (Go.Operand.tmp 4), type := 28, pos := "law.go:40", after := #[], guard := none }) (v := ?_) rfl (by kernel_rfl) (by kernel_rfl) (by kernel_rfl) (fun _ _ _ h => h) rfl ?_ ?_); rotate_left; focus (intro W hW; (try dsimp only at hW); go_split_ands; go_simp; (try (simp (disch := omega) only [IntWalk.i64_in]; (try go_simp))); (try (split; (next => omega); (try go_simp))); try rfl; done))
  try simp only [Act.put, List.setIfInBounds_toArray, List.set_cons_zero, List.set_cons_succ]
  ((refine rt_yes (i := 4) (oi := { dst := some 34, op := Go.Op.move (Go.Operand.tmp 2), type := 65, pos := "law.go:40", after := #[], guard := none }) (v := ?_) rfl (by kernel_rfl) (by kernel_rfl) (by kernel_rfl) (fun _ _ _ h => h) rfl ?_ ?_); rotate_left; focus (intro W hW; (try dsimp only at hW); go_split_ands; go_simp; (try (simp (disch := omega) only [IntWalk.i64_in]; (try go_simp))); (try (split; (next => omega); (try go_simp))); try rfl; done))
  try simp only [Act.put, List.setIfInBounds_toArray, List.set_cons_zero, List.set_cons_succ]
  ((refine rt_yes (i := 5) (oi := { dst := some 35, op := Go.Op.load 68 (Go.Operand.tmp 1), type := 68, pos := "law.go:40", after := #[], guard := none }) (v := ?_) rfl (by kernel_rfl) (by kernel_rfl) (by kernel_rfl) (fun _ _ _ h => h) rfl ?_ ?_); rotate_left; focus (intro W hW; (try dsimp only at hW); go_split_ands; go_simp; (try (simp (disch := omega) only [IntWalk.i64_in]; (try go_simp))); (try (split; (next => omega); (try go_simp))); try rfl; done))
  try simp only [Act.put, List.setIfInBounds_toArray, List.set_cons_zero, List.set_cons_succ]
  -- ready: [3]
  refine rt_k (fun W => W.cell? ⟨b, 0, none⟩ = some (.int .i64 2) ∧ W.cell? ⟨b, 1, none⟩ = some (.slice (some ⟨w.heap.size, 0, none⟩) 1 1) ∧ W.cell? ⟨b, 2, none⟩ = some (.slice (some ⟨w.heap.size + 1 + 1, 0, none⟩) 1 1)) (i := 3) (oi := { dst := some 33, op := Go.Op.call { callee := Go.Callee.value (Go.Operand.func 33), args := #[Go.Operand.tmp 30, Go.Operand.tmp 31, Go.Operand.tmp 32], argTypes := #[65, 68, 28] }, type := 54, pos := "law.go:40", after := #[{ on := 0, ground := Go.Ground.data }, { on := 1, ground := Go.Ground.data }, { on := 2, ground := Go.Ground.data }], guard := none }) (by kernel_rfl) (HS.out _ cd.of_no) (fun _ h => h) rfl (by rfl) (fun K hK => ?_)
  go_simp
  refine (Hi1.out _ cd).mono ?_
  rintro e w6 ⟨rfl, hc6, hr6⟩
  have cd6 := cd.of_no.trans (hc6.ge (Hreg5.out _ cd))
  refine hK _ _ ?_
  clear hK K
  try simp only [Act.put, List.setIfInBounds_toArray, List.set_cons_zero, List.set_cons_succ]
  -- ready: [6]
  refine rt_k (fun W => W.cell? ⟨b, 0, none⟩ = some (.int .i64 2) ∧ W.cell? ⟨b, 1, none⟩ = some (.slice (some ⟨w.heap.size, 0, none⟩) 1 1) ∧ W.cell? ⟨b, 2, none⟩ = some (.slice (some ⟨w.heap.size + 1 + 1, 0, none⟩) 1 1)) (i := 6) (oi := { dst := some 36, op := Go.Op.call { callee := Go.Callee.value (Go.Operand.func 33), args := #[Go.Operand.tmp 34, Go.Operand.tmp 35, Go.Operand.const (Go.Value.slice none 0 0)], argTypes := #[65, 68, 28] }, type := 54, pos := "law.go:40", after := #[{ on := 4, ground := Go.Ground.data }, { on := 5, ground := Go.Ground.data }, { on := 3, ground := Go.Ground.chain }], guard := none }) (by kernel_rfl) (HS.out _ cd6) (fun _ h => h) rfl (by rfl) (fun K hK => ?_)
  go_simp
  refine (Hi2.out _ cd6 hr6).mono ?_
  rintro e w7 ⟨rfl, hc7, hr7⟩
  have cd7 := cd6.trans (hc7.ge hr6)
  refine hK _ _ ?_
  clear hK K
  try simp only [Act.put, List.setIfInBounds_toArray, List.set_cons_zero, List.set_cons_succ]
  ((refine rt_yes (i := 7) (oi := { dst := some 5, op := Go.Op.assign (Go.Operand.tmp 33), type := 54, pos := "law.go:40", after := #[{ on := 3, ground := Go.Ground.data }, { on := 6, ground := Go.Ground.chain }, { on := 0, ground := Go.Ground.phase }, { on := 1, ground := Go.Ground.phase }, { on := 2, ground := Go.Ground.phase }, { on := 3, ground := Go.Ground.phase }, { on := 4, ground := Go.Ground.textOnly Go.Departure.lateStores }, { on := 5, ground := Go.Ground.textOnly Go.Departure.lateStores }, { on := 6, ground := Go.Ground.textOnly Go.Departure.lateStoresUnsure }], guard := none }) (v := ?_) rfl (by kernel_rfl) (by kernel_rfl) (by kernel_rfl) (fun _ _ _ h => h) rfl ?_ ?_); rotate_left; focus (intro W hW; (try dsimp only at hW); go_split_ands; go_simp; (try (simp (disch := omega) only [IntWalk.i64_in]; (try go_simp))); (try (split; (next => omega); (try go_simp))); try rfl; done))
  try simp only [Act.put, List.setIfInBounds_toArray, List.set_cons_zero, List.set_cons_succ]
  -- ready: [8]
  refine rt_k (fun W => W.cell? ⟨b, 0, none⟩ = some (.int .i64 2) ∧ W.cell? ⟨b, 1, none⟩ = some (.slice (some ⟨w.heap.size, 0, none⟩) 1 1) ∧ W.cell? ⟨b, 2, none⟩ = some (.slice (some ⟨w.heap.size + 1 + 1, 0, none⟩) 1 1)) (i := 8) (oi := { dst := some 6, op := Go.Op.assign (Go.Operand.tmp 36), type := 54, pos := "law.go:40", after := #[{ on := 6, ground := Go.Ground.data }, { on := 7, ground := Go.Ground.chain }, { on := 0, ground := Go.Ground.phase }, { on := 1, ground := Go.Ground.phase }, { on := 2, ground := Go.Ground.phase }, { on := 3, ground := Go.Ground.phase }, { on := 4, ground := Go.Ground.phase }, { on := 5, ground := Go.Ground.phase }, { on := 6, ground := Go.Ground.phase }, { on := 7, ground := Go.Ground.phase }], guard := none }) (by kernel_rfl) (HS.out _ cd7) (fun _ h => h) rfl (by rfl) (fun K hK => ?_)
  go_simp
  refine hK _ _ ?_
  clear hK K
  try simp only [Act.put, List.setIfInBounds_toArray, List.set_cons_zero, List.set_cons_succ]
  -- ready: []
  refine rt_done (by kernel_rfl)  ?_
  have Hr7 := Lib.hid (fun W (hW : Chg No w7 W) => hr7.keepNo hW)
  have hst := rstart_yes w1.heap.size p arR1 w7 hr7 ar_rows1 1 (by decide)
  rw [show firstR arR1 + ((1 : Nat) : Int) = 2 from rfl, ar_start] at hst
  have Hst := Lib.hid hst
  clear hst hr6 hr7 HS Hi1 Hi2 Hreg5
  go_wp2_with (first | (with_reducible refine stop_append ?_) | (with_reducible refine stop_copy ?_) | (with_reducible refine stop_make ?_) | (with_reducible refine stop_lookup ?_) | (with_reducible refine stop_update ?_) | (with_reducible refine stop_slice ?_) | (with_reducible refine stop_range ?_) | (with_reducible refine stop_next ?_) | (with_reducible refine stop_convert ⟨_, rfl⟩ ?_) | (with_reducible refine stop_convertB ⟨_, _, _, rfl⟩ ?_) | (with_reducible refine stop_eqSlice ⟨_, _, rfl⟩ ?_))
  refine Hst.out.mono ?_
  rintro e w8 ⟨rfl, hc8⟩
  have Hfd := Lib.hid (rfind_any w1.heap.size p arR1 w8 (Hr7.out _ hc8) ar_rows1 4 (by decide))
  rw [ar_find] at Hfd
  go_wp2_with (first | (with_reducible refine stop_append ?_) | (with_reducible refine stop_copy ?_) | (with_reducible refine stop_make ?_) | (with_reducible refine stop_lookup ?_) | (with_reducible refine stop_update ?_) | (with_reducible refine stop_slice ?_) | (with_reducible refine stop_range ?_) | (with_reducible refine stop_next ?_) | (with_reducible refine stop_convert ⟨_, rfl⟩ ?_) | (with_reducible refine stop_convertB ⟨_, _, _, rfl⟩ ?_) | (with_reducible refine stop_eqSlice ⟨_, _, rfl⟩ ?_))
  refine Hfd.out.mono ?_
  rintro e w9 ⟨he, hc9⟩
  obtain rfl := he
  have c79 := hc8.trans hc9
  have c90 := c79.alloc (.cells #[.int .i64 2, .int .i64 1] 50)
  have oq := alloc_obj w9 (.cells #[.int .i64 2, .int .i64 1] 50)
  have q0 := cell_obj (i := 0) oq (u := .int .i64 2) rfl
  have q1 := cell_obj (i := 1) oq (u := .int .i64 1) rfl
  clear oq
  go_wp2_with (first | (with_reducible refine stop_append ?_) | (with_reducible refine stop_copy ?_) | (with_reducible refine stop_make ?_) | (with_reducible refine stop_lookup ?_) | (with_reducible refine stop_update ?_) | (with_reducible refine stop_slice ?_) | (with_reducible refine stop_range ?_) | (with_reducible refine stop_next ?_) | (with_reducible refine stop_convert ⟨_, rfl⟩ ?_) | (with_reducible refine stop_convertB ⟨_, _, _, rfl⟩ ?_) | (with_reducible refine stop_eqSlice ⟨_, _, rfl⟩ ?_))
  have Hcu := Lib.hid (rcurrent_any w1.heap.size p arR1 _ (Hr7.out _ c90) ar_rows1)
  rw [show firstR arR1 + ((arR1.length - 1 : Nat) : Int) = 2 from rfl] at Hcu
  generalize w9.alloc (.cells #[.int .i64 2, .int .i64 1] 50) = w10 at *
  refine Hcu.out.mono ?_
  rintro e w11 ⟨rfl, hc11⟩
  have c711 := c90.trans hc11
  go_wp2_with (first | (with_reducible refine stop_append ?_) | (with_reducible refine stop_copy ?_) | (with_reducible refine stop_make ?_) | (with_reducible refine stop_lookup ?_) | (with_reducible refine stop_update ?_) | (with_reducible refine stop_slice ?_) | (with_reducible refine stop_range ?_) | (with_reducible refine stop_next ?_) | (with_reducible refine stop_convert ⟨_, rfl⟩ ?_) | (with_reducible refine stop_convertB ⟨_, _, _, rfl⟩ ?_) | (with_reducible refine stop_eqSlice ⟨_, _, rfl⟩ ?_))
  have Hfi := Lib.hid (rfirst_any w1.heap.size p arR1 _ (Hr7.out _ c711) ar_rows1)
  rw [show firstR arR1 = 1 from rfl] at Hfi
  refine Hfi.out.mono ?_
  rintro e w12 ⟨rfl, hc12⟩
  have c712 := c711.trans hc12
  go_wp2_with (first | (with_reducible refine stop_append ?_) | (with_reducible refine stop_copy ?_) | (with_reducible refine stop_make ?_) | (with_reducible refine stop_lookup ?_) | (with_reducible refine stop_update ?_) | (with_reducible refine stop_slice ?_) | (with_reducible refine stop_range ?_) | (with_reducible refine stop_next ?_) | (with_reducible refine stop_convert ⟨_, rfl⟩ ?_) | (with_reducible refine stop_convertB ⟨_, _, _, rfl⟩ ?_) | (with_reducible refine stop_eqSlice ⟨_, _, rfl⟩ ?_))
  go_ret
  have hz := hcw.size
  have hz2 := (hcw.trans hc2).size
  have hb := Hb.out
  refine ⟨rfl, ((((hcw.trans hc2).old h25 (fun k hk => by simp only [At] at hk; omega)).old cd7 (fun k hk => by simp only [Ge] at hk; omega))).trans c712⟩
end Go.Proofs.Ytbjpoamnglfjeaa

/- Walk of the law RegisterRows. -/
import Derived.Test.YtbjpoamnglfjeaaRegW
import Derived.Test.YtbjpoamnglfjeaaRgaC
set_option linter.unusedVariables false
set_option linter.unusedSimpArgs false
namespace Go.Proofs.Ytbjpoamnglfjeaa
open Go.RowKit Cb

theorem free_set {w : World} {b c i : Nat} {u : Value} (h : ∃ C T, w.heap[c]? = some (.cells C T (0, 0))) : ∃ C T, (w.setCell ⟨b, i, none⟩ u).heap[c]? = some (.cells C T (0, 0)) := by
  obtain ⟨C, T, h⟩ := h
  by_cases e : c = b
  · subst e; exact ⟨_, T, obj_set h rfl⟩
  · exact ⟨C, T, obj_set_other h e⟩
theorem cells_ne {w : World} {a b : Addr} {x : Int} {A : Option Addr} {n c : Nat} (h : w.cell? a = some (.int .i64 x)) (h' : w.cell? b = some (.slice A n c)) : a ≠ b := fun e => by
  rw [e, h'] at h; cases h
theorem some_set {w : World} {b c i j : Nat} {u x : Value} (hx : w.cell? ⟨c, j, none⟩ = some x) : ∃ y, (w.setCell ⟨b, i, none⟩ u).cell? ⟨c, j, none⟩ = some y := by
  by_cases e : (⟨b, i, none⟩ : Addr) = ⟨c, j, none⟩
  · rw [e]
    exact ⟨u, World.cell?_setCell_same (h := hx) ..⟩
  · exact ⟨x, by rw [World.cell?_setCell_other (h := e)]; exact hx⟩
/-- A store of a number leaves a cell with a slice as it was. -/
theorem slice_set {w : World} {b c i j n m : Nat} {A : Option Addr} {x : Int} {u : Value} (h : w.cell? ⟨c, j, none⟩ = some (.slice A n m)) (hb : w.cell? ⟨b, i, none⟩ = some (.int .i64 x)) : (w.setCell ⟨b, i, none⟩ u).cell? ⟨c, j, none⟩ = some (.slice A n m) := by
  have hne : (⟨c, j, none⟩ : Addr) ≠ ⟨b, i, none⟩ := fun e => by rw [e, hb] at h; cases h
  rw [World.cell?_setCell_other (h := fun e => hne e.symm)]
  exact h
set_option maxRecDepth 100000 in
set_option maxHeartbeats 8000000 in
theorem rrows_any (t : Int) (vq vs v : Value) (q : List Int) (s : List (List Int)) (l : List Op) (w : World) (hq : Sl No w vq q) (hs : Sl No w vs s) (h : Sl No w v l) (hl : l.length * 80 ≤ 140737488355328) (hc : CfgI q s) (ho : ∀ o ∈ l, OpI o) :
    Calls Try.prog 10 #[cfgV t vq vs, v] w fun e w' => e = .returned (.bool true) ∧ Chg No w w' := by
  have Hfew := Lib.hid (fun W (hW : Chg No w W) => fewr_any No No No t vq vs v q s l W (hq.keepNo hW) (hs.keepNo hW) (h.keepNo hW) (by omega) hc ho)
  have Hno := Lib.hid (fun (hr : rightC t q s = false) W (hW : Chg No w W) => new_no No No t vq vs q s W (hq.keepNo hW) (hs.keepNo hW) hc.1 (by have := hc.2.1; omega) hc.2.2 hr)
  have Hyes := Lib.hid (fun (hr : rightC t q s = true) W (hW : Chg No w W) => new_yes t vq vs q s W (hq.keepNo hW) (hs.keepNo hW) hr)
  have Hal := Lib.hid (fun W => ralive_any W)
  obtain ⟨Aq, cq, rfl⟩ := hq.slice
  obtain ⟨As, cs, rfl⟩ := hs.slice
  obtain ⟨A, c, rfl⟩ := h.slice
  have Hs := Lib.hid h
  have Ho := Lib.hid ho
  unfold cfgV at *
  have o1 := alloc_obj w (.cells #[.int .i64 t, .slice Aq q.length cq, .slice As s.length cs] 63)
  have hc0 := (Chg.refl No w).alloc (.cells #[.int .i64 t, .slice Aq q.length cq, .slice As s.length cs] 63)
  have a0 := cell_obj (i := 0) o1 rfl
  have a1 := cell_obj (i := 1) o1 rfl
  have a2 := cell_obj (i := 2) o1 rfl
  clear hq hs h hc ho
  go_enter Try.func10, Try.ntmps10
  go_wp2_with (first | (with_reducible refine stop_append ?_) | (with_reducible refine stop_copy ?_) | (with_reducible refine stop_make ?_) | (with_reducible refine stop_lookup ?_) | (with_reducible refine stop_update ?_) | (with_reducible refine stop_slice ?_) | (with_reducible refine stop_range ?_) | (with_reducible refine stop_next ?_) | (with_reducible refine stop_convert ⟨_, rfl⟩ ?_) | (with_reducible refine stop_convertB ⟨_, _, _, rfl⟩ ?_) | (with_reducible refine stop_eqSlice ⟨_, _, rfl⟩ ?_))
  generalize w.alloc (.cells #[.int .i64 t, .slice Aq q.length cq, .slice As s.length cs] 63) = w0 at *
  rcases hr : rightC t q s with _ | _
  · refine (Hno.out hr w0 hc0).mono ?_
    rintro e w1 ⟨rfl, hc1⟩
    go_wp2_with (first | (with_reducible refine stop_append ?_) | (with_reducible refine stop_copy ?_) | (with_reducible refine stop_make ?_) | (with_reducible refine stop_lookup ?_) | (with_reducible refine stop_update ?_) | (with_reducible refine stop_slice ?_) | (with_reducible refine stop_range ?_) | (with_reducible refine stop_next ?_) | (with_reducible refine stop_convert ⟨_, rfl⟩ ?_) | (with_reducible refine stop_convertB ⟨_, _, _, rfl⟩ ?_) | (with_reducible refine stop_eqSlice ⟨_, _, rfl⟩ ?_))
    refine (Hal.out _).mono ?_
    rintro e w2 ⟨rfl, hc2⟩
    go_wp2_with (first | (with_reducible refine stop_append ?_) | (with_reducible refine stop_copy ?_) | (with_reducible refine stop_make ?_) | (with_reducible refine stop_lookup ?_) | (with_reducible refine stop_update ?_) | (with_reducible refine stop_slice ?_) | (with_reducible refine stop_range ?_) | (with_reducible refine stop_next ?_) | (with_reducible refine stop_convert ⟨_, rfl⟩ ?_) | (with_reducible refine stop_convertB ⟨_, _, _, rfl⟩ ?_) | (with_reducible refine stop_eqSlice ⟨_, _, rfl⟩ ?_))
    go_ret
    exact ⟨rfl, (hc0.trans hc1).trans hc2⟩
  · have Hri := Lib.hid (new_reg hr)
    refine (Hyes.out hr w0 hc0).mono ?_
    rintro e w1 ⟨p, rfl, hc1, hreg⟩
    have Hreg := Lib.hid hreg
    clear hreg hr Hno Hyes
    have hcw1 := hc0.trans hc1
    replace a0 := hc1.cell a0 (not_no _)
    replace a1 := hc1.cell a1 (not_no _)
    replace a2 := hc1.cell a2 (not_no _)
    go_wp2_with (first | (with_reducible refine stop_append ?_) | (with_reducible refine stop_copy ?_) | (with_reducible refine stop_make ?_) | (with_reducible refine stop_lookup ?_) | (with_reducible refine stop_update ?_) | (with_reducible refine stop_slice ?_) | (with_reducible refine stop_range ?_) | (with_reducible refine stop_next ?_) | (with_reducible refine stop_convert ⟨_, rfl⟩ ?_) | (with_reducible refine stop_convertB ⟨_, _, _, rfl⟩ ?_) | (with_reducible refine stop_eqSlice ⟨_, _, rfl⟩ ?_))
    refine (Hfew.out _ hcw1).mono ?_
    rintro e w2 ⟨⟨b, rfl⟩, hc2⟩
    have hcw2 := hcw1.trans hc2
    rcases b with _ | _
    · go_wp2_with (first | (with_reducible refine stop_append ?_) | (with_reducible refine stop_copy ?_) | (with_reducible refine stop_make ?_) | (with_reducible refine stop_lookup ?_) | (with_reducible refine stop_update ?_) | (with_reducible refine stop_slice ?_) | (with_reducible refine stop_range ?_) | (with_reducible refine stop_next ?_) | (with_reducible refine stop_convert ⟨_, rfl⟩ ?_) | (with_reducible refine stop_convertB ⟨_, _, _, rfl⟩ ?_) | (with_reducible refine stop_eqSlice ⟨_, _, rfl⟩ ?_))
      refine (Hal.out _).mono ?_
      rintro e w3 ⟨rfl, hc3⟩
      go_wp2_with (first | (with_reducible refine stop_append ?_) | (with_reducible refine stop_copy ?_) | (with_reducible refine stop_make ?_) | (with_reducible refine stop_lookup ?_) | (with_reducible refine stop_update ?_) | (with_reducible refine stop_slice ?_) | (with_reducible refine stop_range ?_) | (with_reducible refine stop_next ?_) | (with_reducible refine stop_convert ⟨_, rfl⟩ ?_) | (with_reducible refine stop_convertB ⟨_, _, _, rfl⟩ ?_) | (with_reducible refine stop_eqSlice ⟨_, _, rfl⟩ ?_))
      go_ret
      exact ⟨rfl, hcw2.trans hc3⟩
    · clear a0 a1 a2 o1 Hfew
      obtain ⟨B, hB⟩ : ∃ B, B = w0.heap.size := ⟨_, rfl⟩
      have Hreg2 := Lib.hid (Hreg.out.keepNo hc2)
      rw [← hB] at Hreg2
      have hwB : w.heap.size ≤ B := by have := hc0.size; omega
      have HsB := Lib.hid (fun W (hW : Chg (Ge B) w2 W) => ((Sl.up (Hs.out.keepNo hc0) (Nat.le_of_eq hB.symm)).keepNo (hc1.trans hc2)).keep hW)
      clear Hreg Hs hc1 hc0 hB
      go_wp2_with (first | (with_reducible refine stop_append ?_) | (with_reducible refine stop_copy ?_) | (with_reducible refine stop_make ?_) | (with_reducible refine stop_lookup ?_) | (with_reducible refine stop_update ?_) | (with_reducible refine stop_slice ?_) | (with_reducible refine stop_range ?_) | (with_reducible refine stop_next ?_) | (with_reducible refine stop_convert ⟨_, rfl⟩ ?_) | (with_reducible refine stop_convertB ⟨_, _, _, rfl⟩ ?_) | (with_reducible refine stop_eqSlice ⟨_, _, rfl⟩ ?_))
      go_loopw [8, 35] (fun _ v35 wr => ∃ (k : Nat) (rows : List Rw), k ≤ l.length ∧ v35 = .int .i64 k ∧ Chg (Ge B) w2 wr ∧ RegS wr B p rows ∧ RegI rows) (fun _ v35 _ => l.length - (intOf v35).toNat)
      case atStart => exact ⟨0, _, by omega, rfl, Chg.refl _ _, Hreg2.out, Hri.out⟩
      case round =>
        obtain ⟨k, rows, hk, rfl, hcr, hreg, hri⟩ := hrel
        by_cases hlt : k < l.length
        · obtain ⟨b4, o4, vq4, vs4, vt4, rfl, -, hbl, sq, ss, st, k0, k1, k2, k3⟩ := op_get (HsB.out wr hcr) k hlt
          obtain ⟨hcx, hlx⟩ := Ho.out _ (List.getElem_mem hlt)
          generalize l[k] = x at *
          obtain ⟨⟨xt, xq, xs⟩, xl⟩ := x
          simp only at k0 k1 k2 k3 sq ss st hcx hlx
          obtain ⟨hfir, -⟩ := install_reg xt xq xs hri hlx
          have hl7 : TailI [((7, 0, [], 0, 0, 0) : Ent)] := ⟨by simp, fun e he => by
            simp only [List.mem_cons, List.not_mem_nil, or_false] at he
            subst he; simp⟩
          have Hri := Lib.hid hri
          have Hxq := Lib.hid sq
          have Hxs := Lib.hid ss
          have Hxt := Lib.hid st
          obtain ⟨Bq, dq, rfl⟩ := sq.slice
          obtain ⟨Bs, ds, rfl⟩ := ss.slice
          obtain ⟨Bt, dt, rfl⟩ := st.slice
          have Hreg3 := Lib.hid hreg
          have o8 := alloc_obj wr (.cells #[.int .i64 xt, .slice Bq xq.length dq, .slice Bs xs.length ds, .slice Bt xl.length dt] 71)
          have hc8 := (Chg.refl No wr).alloc (.cells #[.int .i64 xt, .slice Bq xq.length dq, .slice Bs xs.length ds, .slice Bt xl.length dt] 71)
          have c0 := cell_obj (i := 0) o8 rfl
          have c1 := cell_obj (i := 1) o8 rfl
          have c2 := cell_obj (i := 2) o8 rfl
          have c3 := cell_obj (i := 3) o8 rfl
          have Hmine := Lib.hid (fun W (hW : Chg No wr W) => mine14_any (.slice Bt xl.length dt) xl W (Hxt.out.no.keepNo hW) (by have := hlx.1; omega))
          have Hinst := Lib.hid (fun W vm (hW : Chg No wr W) (hm : Sl No W vm xl) => install_any B p rows xt (.slice Bq xq.length dq) (.slice Bs xs.length ds) vm xq xs xl W (Hreg3.out.keepNo hW) Hri.out.1 (Hxq.out.keepNo hW) (Hxs.out.keepNo hW) hm hcx hlx)
          unfold cfgV at Hinst
          clear sq ss st hreg hri
          generalize installF rows xt xq xs xl = cr at *
          obtain ⟨code, rows2⟩ := cr
          simp only at hfir Hinst
          go_wp2_with (first | (with_reducible refine stop_append ?_) | (with_reducible refine stop_copy ?_) | (with_reducible refine stop_make ?_) | (with_reducible refine stop_lookup ?_) | (with_reducible refine stop_update ?_) | (with_reducible refine stop_slice ?_) | (with_reducible refine stop_range ?_) | (with_reducible refine stop_next ?_) | (with_reducible refine stop_convert ⟨_, rfl⟩ ?_) | (with_reducible refine stop_convertB ⟨_, _, _, rfl⟩ ?_) | (with_reducible refine stop_eqSlice ⟨_, _, rfl⟩ ?_))
          obtain ⟨b8, hb8⟩ : ∃ b, b = wr.heap.size := ⟨_, rfl⟩
          generalize wr.alloc (.cells #[.int .i64 xt, .slice Bq xq.length dq, .slice Bs xs.length ds, .slice Bt xl.length dt] 71) = wA at *
          rw [← hb8] at c0 c1 c2 c3 o8 ⊢
          have Hb8 := Lib.hid hb8
          clear hb8 k0 k1 k2 k3 hbl
          have HS := Lib.hid (show ∀ W : World, W.heap[b8]? = some (.cells #[.int .i64 xt, .slice Bq xq.length dq, .slice Bs xs.length ds, .slice Bt xl.length dt] 71) → (fun W => W.cell? ⟨b8, 0, none⟩ = some (.int .i64 xt) ∧ W.cell? ⟨b8, 1, none⟩ = some (.slice Bq xq.length dq) ∧ W.cell? ⟨b8, 2, none⟩ = some (.slice Bs xs.length ds) ∧ W.cell? ⟨b8, 3, none⟩ = some (.slice Bt xl.length dt)) W from fun W hW => ⟨cell_obj (i := 0) hW rfl, cell_obj (i := 1) hW rfl, cell_obj (i := 2) hW rfl, cell_obj (i := 3) hW rfl⟩)
          have cd := (Chg.refl No wA).drew
          refine rt_start (fun W => W.cell? ⟨b8, 0, none⟩ = some (.int .i64 xt) ∧ W.cell? ⟨b8, 1, none⟩ = some (.slice Bq xq.length dq) ∧ W.cell? ⟨b8, 2, none⟩ = some (.slice Bs xs.length ds) ∧ W.cell? ⟨b8, 3, none⟩ = some (.slice Bt xl.length dt)) (by kernel_rfl) ?_
          ((refine rt_yes (i := 0) (oi := { dst := some 39, op := Go.Op.move (Go.Operand.tmp 5), type := 65, pos := "law.go:168", after := #[], guard := none }) (v := ?_) rfl (by kernel_rfl) (by kernel_rfl) (by kernel_rfl) (fun _ _ _ h => h) rfl ?_ ?_); rotate_left; focus (intro W hW; (try dsimp only at hW); go_split_ands; go_simp; (try (simp (disch := omega) only [IntWalk.i64_in]; (try go_simp))); (try (split; (next => omega); (try go_simp))); try rfl; done))
          try simp only [Act.put, List.setIfInBounds_toArray, List.set_cons_zero, List.set_cons_succ]
          ((refine rt_yes (i := 1) (oi := { dst := some 40, op := Go.Op.fieldAddr 71 (Go.Operand.tmp 8) 0, type := 0, pos := "law.go:168", after := #[], guard := none }) (v := ?_) rfl (by kernel_rfl) (by kernel_rfl) (by kernel_rfl) (fun _ _ _ h => h) rfl ?_ ?_); rotate_left; focus (intro W hW; (try dsimp only at hW); go_split_ands; go_simp; (try (simp (disch := omega) only [IntWalk.i64_in]; (try go_simp))); (try (split; (next => omega); (try go_simp))); try rfl; done))
          try simp only [Act.put, List.setIfInBounds_toArray, List.set_cons_zero, List.set_cons_succ]
          ((refine rt_yes (i := 2) (oi := { dst := some 41, op := Go.Op.load 63 (Go.Operand.tmp 40), type := 63, pos := "law.go:168", after := #[{ on := 1, ground := Go.Ground.data }], guard := none }) (v := ?_) rfl (by kernel_rfl) (by kernel_rfl) (by kernel_rfl) (fun _ _ _ h => h) rfl ?_ ?_); rotate_left; focus (intro W hW; (try dsimp only at hW); go_split_ands; go_simp; (try (simp (disch := omega) only [IntWalk.i64_in]; (try go_simp))); (try (split; (next => omega); (try go_simp))); try rfl; done))
          try simp only [Act.put, List.setIfInBounds_toArray, List.set_cons_zero, List.set_cons_succ]
          ((refine rt_yes (i := 3) (oi := { dst := some 42, op := Go.Op.fieldAddr 71 (Go.Operand.tmp 8) 1, type := 0, pos := "law.go:168", after := #[], guard := none }) (v := ?_) rfl (by kernel_rfl) (by kernel_rfl) (by kernel_rfl) (fun _ _ _ h => h) rfl ?_ ?_); rotate_left; focus (intro W hW; (try dsimp only at hW); go_split_ands; go_simp; (try (simp (disch := omega) only [IntWalk.i64_in]; (try go_simp))); (try (split; (next => omega); (try go_simp))); try rfl; done))
          try simp only [Act.put, List.setIfInBounds_toArray, List.set_cons_zero, List.set_cons_succ]
          ((refine rt_yes (i := 4) (oi := { dst := some 43, op := Go.Op.load 22 (Go.Operand.tmp 42), type := 22, pos := "law.go:168", after := #[{ on := 3, ground := Go.Ground.data }], guard := none }) (v := ?_) rfl (by kernel_rfl) (by kernel_rfl) (by kernel_rfl) (fun _ _ _ h => h) rfl ?_ ?_); rotate_left; focus (intro W hW; (try dsimp only at hW); go_split_ands; go_simp; (try (simp (disch := omega) only [IntWalk.i64_in]; (try go_simp))); (try (split; (next => omega); (try go_simp))); try rfl; done))
          try simp only [Act.put, List.setIfInBounds_toArray, List.set_cons_zero, List.set_cons_succ]
          -- ready: [5]
          refine rt_k (fun W => W.cell? ⟨b8, 0, none⟩ = some (.int .i64 xt) ∧ W.cell? ⟨b8, 1, none⟩ = some (.slice Bq xq.length dq) ∧ W.cell? ⟨b8, 2, none⟩ = some (.slice Bs xs.length ds) ∧ W.cell? ⟨b8, 3, none⟩ = some (.slice Bt xl.length dt)) (i := 5) (oi := { dst := some 44, op := Go.Op.call { callee := Go.Callee.value (Go.Operand.func 34), args := #[Go.Operand.tmp 43], argTypes := #[22] }, type := 28, pos := "law.go:168", after := #[{ on := 4, ground := Go.Ground.data }], guard := none }) (by kernel_rfl) (HS.out _ (cd.obj o8 (not_no _))) (fun _ h => h) rfl (by rfl) (fun K hK => ?_)
          go_simp
          refine (Hmine.out _ (hc8.trans cd)).mono ?_
          rintro e w6 ⟨vm, rfl, h6, sm⟩
          have cd6 := cd.trans h6
          refine hK _ _ ?_
          clear hK K
          try simp only [Act.put, List.setIfInBounds_toArray, List.set_cons_zero, List.set_cons_succ]
          -- ready: [6]
          refine rt_k (fun W => W.cell? ⟨b8, 0, none⟩ = some (.int .i64 xt) ∧ W.cell? ⟨b8, 1, none⟩ = some (.slice Bq xq.length dq) ∧ W.cell? ⟨b8, 2, none⟩ = some (.slice Bs xs.length ds) ∧ W.cell? ⟨b8, 3, none⟩ = some (.slice Bt xl.length dt)) (i := 6) (oi := { dst := some 45, op := Go.Op.call { callee := Go.Callee.value (Go.Operand.func 33), args := #[Go.Operand.tmp 39, Go.Operand.tmp 41, Go.Operand.tmp 44], argTypes := #[65, 68, 28] }, type := 54, pos := "law.go:168", after := #[{ on := 0, ground := Go.Ground.data }, { on := 2, ground := Go.Ground.data }, { on := 5, ground := Go.Ground.data }, { on := 5, ground := Go.Ground.chain }], guard := none }) (by kernel_rfl) (HS.out _ (cd6.obj o8 (not_no _))) (fun _ h => h) rfl (by rfl) (fun K hK => ?_)
          go_simp
          refine (Hinst.out _ _ (hc8.trans cd6) sm).mono ?_
          rintro e w7 ⟨rfl, hin, hr7⟩
          have hr6 := Hreg3.out.keepNo (hc8.trans cd6)
          have off8 : Off w6 p b8 := Off.new Hreg3.out (hc8.trans cd6) (Nat.le_of_eq Hb8.out.symm) (lt_of_heap (cd6.obj o8 (not_no _)))
          have o87 := off8.obj hin (cd6.obj o8 (not_no _))
          have crr : Chg (Ge B) wr w7 := (hc8.trans cd6).of_no.trans (hin.ge hr6)
          have Hr7 := Lib.hid hr7
          refine hK _ _ ?_
          clear hK K
          try simp only [Act.put, List.setIfInBounds_toArray, List.set_cons_zero, List.set_cons_succ]
          -- ready: []
          refine rt_done (by kernel_rfl)  ?_
          clear c0 c1 c2 c3 o8 hin hr7 sm cd cd6 hr6 off8 Hinst Hmine
          have hfb := first_bound hfir.1
          have Hcur := Lib.hid (fun W (hW : Chg No w7 W) => rcurrent_any B p rows2 W (Hr7.out.keepNo hW) hfir.1)
          obtain ⟨cur, hcur⟩ : ∃ c, c = firstR rows2 + (rows2.length - 1 : Nat) := ⟨_, rfl⟩
          rw [← hcur] at Hcur hfb
          have Hcu := Lib.hid hcur
          clear hcur
          go_wp2_with (first | (with_reducible refine stop_append ?_) | (with_reducible refine stop_copy ?_) | (with_reducible refine stop_make ?_) | (with_reducible refine stop_lookup ?_) | (with_reducible refine stop_update ?_) | (with_reducible refine stop_slice ?_) | (with_reducible refine stop_range ?_) | (with_reducible refine stop_next ?_) | (with_reducible refine stop_convert ⟨_, rfl⟩ ?_) | (with_reducible refine stop_convertB ⟨_, _, _, rfl⟩ ?_) | (with_reducible refine stop_eqSlice ⟨_, _, rfl⟩ ?_))
          refine (Hcur.out _ (Chg.refl _ _)).mono ?_
          rintro e wB ⟨rfl, hB⟩
          have hcb : 1 ≤ cur ∧ cur ≤ 64 := by
            have := Hcu.out
            omega
          have Hw := Lib.hid (fun W => install_wrong p (cur + 1) (.slice none 0 0) (.slice none 0 0) (.slice none 0 0) [] [] W (Sl.nil _ _ _ _) (Sl.nil _ _ _ _) (by simp) (by simp) (fun x hx => by cases hx) (by simp [rightC]))
          unfold cfgV at Hw
          go_wp2_with (first | (with_reducible refine stop_append ?_) | (with_reducible refine stop_copy ?_) | (with_reducible refine stop_make ?_) | (with_reducible refine stop_lookup ?_) | (with_reducible refine stop_update ?_) | (with_reducible refine stop_slice ?_) | (with_reducible refine stop_range ?_) | (with_reducible refine stop_next ?_) | (with_reducible refine stop_convert ⟨_, rfl⟩ ?_) | (with_reducible refine stop_convertB ⟨_, _, _, rfl⟩ ?_) | (with_reducible refine stop_eqSlice ⟨_, _, rfl⟩ ?_))
          refine (Hw.out _).mono ?_
          rintro e wC ⟨rfl, hC⟩
          have h7C := hB.trans hC
          have o8C := h7C.obj o87 (not_no _)
          have c0 := cell_obj (i := 0) o8C rfl
          have c1 := cell_obj (i := 1) o8C rfl
          have c2 := cell_obj (i := 2) o8C rfl
          have hl7s : Sl No (wC.alloc (.cells #[.int .i64 7, .int .i64 0, .slice none 0 0, .int .i64 0, .int .i64 0, .int .i64 0] 58)) (.slice (some ⟨wC.heap.size, 0, none⟩) 1 1) [((7, 0, [], 0, 0, 0) : Ent)] :=
            Sl.lit1 (d := entC (7, 0, [], 0, 0, 0) (.slice none 0 0)) rfl (ent_mk _ (Sl.nil _ _ _ _)) (not_no _)
          have hcD := (Chg.refl No wC).alloc (.cells #[.int .i64 7, .int .i64 0, .slice none 0 0, .int .i64 0, .int .i64 0, .int .i64 0] 58)
          have h7D := h7C.trans hcD
          have Hi3 := Lib.hid (install_any B p rows2 xt (.slice Bq xq.length dq) (.slice Bs xs.length ds) (.slice (some ⟨wC.heap.size, 0, none⟩) 1 1) xq xs [(7, 0, [], 0, 0, 0)] _ (Hr7.out.keepNo h7D) hfir.1 ((Hxq.out.keep crr).keepNo h7D) ((Hxs.out.keep crr).keepNo h7D) hl7s hcx hl7)
          unfold cfgV at Hi3
          obtain ⟨hfir3, -⟩ := install_reg xt xq xs hfir hl7
          generalize installF rows2 xt xq xs [(7, 0, [], 0, 0, 0)] = cr at *
          obtain ⟨code3, rows3⟩ := cr
          simp only at hfir3 Hi3
          have Hr7D := Lib.hid (Hr7.out.keepNo h7D)
          clear hl7s hcD o8C
          go_wp2_with (first | (with_reducible refine stop_append ?_) | (with_reducible refine stop_copy ?_) | (with_reducible refine stop_make ?_) | (with_reducible refine stop_lookup ?_) | (with_reducible refine stop_update ?_) | (with_reducible refine stop_slice ?_) | (with_reducible refine stop_range ?_) | (with_reducible refine stop_next ?_) | (with_reducible refine stop_convert ⟨_, rfl⟩ ?_) | (with_reducible refine stop_convertB ⟨_, _, _, rfl⟩ ?_) | (with_reducible refine stop_eqSlice ⟨_, _, rfl⟩ ?_))
          generalize wC.alloc (.cells #[.int .i64 7, .int .i64 0, .slice none 0 0, .int .i64 0, .int .i64 0, .int .i64 0] 58) = wD at *
          refine Hi3.out.mono ?_
          rintro e wE ⟨rfl, hin3, hr3⟩
          have c9r : Chg (Ge B) w2 wE := ((hcr.trans crr).trans h7D.of_no).trans (hin3.ge Hr7D.out)
          have Hr3 := Lib.hid hr3
          clear hr3 hin3 c0 c1 c2
          go_wp2_with (first | (with_reducible refine stop_append ?_) | (with_reducible refine stop_copy ?_) | (with_reducible refine stop_make ?_) | (with_reducible refine stop_lookup ?_) | (with_reducible refine stop_update ?_) | (with_reducible refine stop_slice ?_) | (with_reducible refine stop_range ?_) | (with_reducible refine stop_next ?_) | (with_reducible refine stop_convert ⟨_, rfl⟩ ?_) | (with_reducible refine stop_convertB ⟨_, _, _, rfl⟩ ?_) | (with_reducible refine stop_eqSlice ⟨_, _, rfl⟩ ?_))
          go_roundw
          case rel => exact ⟨k + 1, rows3, by omega, by go_num, c9r, Hr3.out, hfir3⟩
          case measure => simp [intOf]; omega
        · obtain rfl : k = l.length := by omega
          have hi0 := hri.1.1
          have h64 := hri.1.2.1
          have hfb := first_bound hri.1
          have Hrs := Lib.hid (fun W (hW : Chg No wr W) => hreg.keepNo hW)
          have Hfst := Lib.hid (fun W (hW : Chg No wr W) => rfirst_any B p rows W (Hrs.out W hW) hri.1)
          have Hcur := Lib.hid (fun W (hW : Chg No wr W) => rcurrent_any B p rows W (Hrs.out W hW) hri.1)
          have Hrow := Lib.hid (fun m (hm : m < rows.length) W (hW : Chg No wr W) => rrowf_yes B p rows W (Hrs.out W hW) hri.1 m hm)
          have Hrow2 := Lib.hid (fun m (hm : m < rows.length) W (hW : Chg No wr W) => rrow_yes B p rows W (Hrs.out W hW) hri.1 m hm)
          have Hri2 := Lib.hid hri.1.2.2
          obtain ⟨nn, hnn⟩ : ∃ o, o = rows.length := ⟨_, rfl⟩
          obtain ⟨mm, hmm⟩ : ∃ o, o = rows.length - 1 := ⟨_, rfl⟩
          rw [← hnn] at hi0 h64
          rw [← hmm] at hfb Hcur
          have Hnn := Lib.hid hnn
          have Hmm := Lib.hid (show nn = mm + 1 by omega)
          clear hnn hmm hri hreg
          obtain ⟨wA, rfl⟩ : ∃ W : World, W = wr := ⟨_, rfl⟩
          have Hff : Hid (∀ m (h : m < rows.length), rows[m].1 = firstR rows + m) := Lib.hid (fun m h => (Hri2.out m h).1)
          generalize firstR rows = f at *
          go_wp2_with (first | (with_reducible refine stop_append ?_) | (with_reducible refine stop_copy ?_) | (with_reducible refine stop_make ?_) | (with_reducible refine stop_lookup ?_) | (with_reducible refine stop_update ?_) | (with_reducible refine stop_slice ?_) | (with_reducible refine stop_range ?_) | (with_reducible refine stop_next ?_) | (with_reducible refine stop_convert ⟨_, rfl⟩ ?_) | (with_reducible refine stop_convertB ⟨_, _, _, rfl⟩ ?_) | (with_reducible refine stop_eqSlice ⟨_, _, rfl⟩ ?_))
          refine (Hcur.out _ (Chg.refl _ _)).mono ?_
          rintro e w3 ⟨rfl, hc3⟩
          go_wp2_with (first | (with_reducible refine stop_append ?_) | (with_reducible refine stop_copy ?_) | (with_reducible refine stop_make ?_) | (with_reducible refine stop_lookup ?_) | (with_reducible refine stop_update ?_) | (with_reducible refine stop_slice ?_) | (with_reducible refine stop_range ?_) | (with_reducible refine stop_next ?_) | (with_reducible refine stop_convert ⟨_, rfl⟩ ?_) | (with_reducible refine stop_convertB ⟨_, _, _, rfl⟩ ?_) | (with_reducible refine stop_eqSlice ⟨_, _, rfl⟩ ?_))
          refine (Hfst.out _ hc3).mono ?_
          rintro e w4 ⟨rfl, hc4⟩
          have hc4' := hc3.trans hc4
          go_wp2_with (first | (with_reducible refine stop_append ?_) | (with_reducible refine stop_copy ?_) | (with_reducible refine stop_make ?_) | (with_reducible refine stop_lookup ?_) | (with_reducible refine stop_update ?_) | (with_reducible refine stop_slice ?_) | (with_reducible refine stop_range ?_) | (with_reducible refine stop_next ?_) | (with_reducible refine stop_convert ⟨_, rfl⟩ ?_) | (with_reducible refine stop_convertB ⟨_, _, _, rfl⟩ ?_) | (with_reducible refine stop_eqSlice ⟨_, _, rfl⟩ ?_))
          go_loopw [10, 11, 12, 13, 14] (fun v10 _ _ _ _ wr => ∃ m : Nat, m ≤ nn ∧ v10 = .int .i64 (f + m) ∧ Chg No wA wr) (fun v10 _ _ _ _ _ => (f + nn - intOf v10).toNat)
          case atStart => exact ⟨0, by omega, congrArg (Value.int .i64) (by omega), hc4'⟩
          case round =>
            obtain ⟨m, hm, rfl, hcA⟩ := hrel
            by_cases hlm : m < nn
            · have hle : f + (m : Int) ≤ f + mm := by have := Hmm.out; omega
              have hmr : m < rows.length := by have := Hnn.out; omega
              obtain ⟨-, hrt, -⟩ := Hri2.out m hmr
              have hsm := right_small hrt
              have hro := rightC_iff.1 hrt
              rw [Hff.out m hmr] at hrt
              go_wp2_with (first | (with_reducible refine stop_append ?_) | (with_reducible refine stop_copy ?_) | (with_reducible refine stop_make ?_) | (with_reducible refine stop_lookup ?_) | (with_reducible refine stop_update ?_) | (with_reducible refine stop_slice ?_) | (with_reducible refine stop_range ?_) | (with_reducible refine stop_next ?_) | (with_reducible refine stop_convert ⟨_, rfl⟩ ?_) | (with_reducible refine stop_convertB ⟨_, _, _, rfl⟩ ?_) | (with_reducible refine stop_eqSlice ⟨_, _, rfl⟩ ?_))
              refine (Hrow.out m hmr _ hcA).mono ?_
              rintro e wB ⟨vq1, vs1, vt1, rfl, hB, sq1, ss1, st1⟩
              have HR := Lib.hid (Hrow2.out m hmr)
              obtain ⟨ov1, hov1⟩ : ∃ o, o = rows[m].2.2.2.2 := ⟨_, rfl⟩
              obtain ⟨n3, hn3⟩ : ∃ o, o = rows[m].2.2.2.1.length := ⟨_, rfl⟩
              obtain ⟨Ct, et, rfl⟩ := st1.slice
              rw [← hn3]
              rw [← hov1] at HR ⊢
              clear hov1 hn3 st1
              obtain ⟨L3, hL3⟩ : ∃ o, o = rows[m].2.2.2.1 := ⟨_, rfl⟩
              rw [← hL3] at HR
              clear hL3
              obtain ⟨Q, hQ⟩ : ∃ o, o = rows[m].2.1 := ⟨_, rfl⟩
              obtain ⟨Z, hZ⟩ : ∃ o, o = rows[m].2.2.1 := ⟨_, rfl⟩
              rw [← hQ] at sq1 hsm hro hrt HR
              rw [← hZ] at ss1 hsm hro hrt HR
              clear hQ hZ
              have hq0 : 0 < Q.length := by have := hro.2.1.1; omega
              have hz0 : 0 < Z.length := by have := hro.2.2.1.1; omega
              have hx0 : 0 < Z[0].length := by
                have := hro.2.2.2.2 _ (List.getElem_mem hz0)
                simp only [shardB, Bool.and_eq_true, decide_eq_true_eq] at this
                exact this.1.1
              clear hro
              obtain ⟨Cq, eq, rfl⟩ := sq1.slice
              obtain ⟨Cs, es, e2⟩ := ss1.slice
              rw [List.length_map] at e2
              subst e2
              obtain ⟨bq, oq, dd, rfl, hnbq, hbq, rfl, hcq⟩ := sq1.sl.get 0 hq0
              have g0 := hcq 0 _ rfl
              obtain ⟨bs, os, dd, rfl, hnbs, hbs, hds, hcs⟩ := ss1.get 0 (by simpa using hz0)
              rw [List.getElem_map] at hds
              obtain ⟨vz, rfl, hvz⟩ := hds
              have g1 := hcs 0 _ rfl
              obtain ⟨Cz, ez, rfl⟩ := hvz.slice
              obtain ⟨bz, oz, dd, rfl, hnbz, hbz, rfl, hcz⟩ := hvz.sl.get 0 hx0
              have g2 := hcz 0 _ rfl
              simp only [show Rep.n Int = 1 from rfl, show Rep.n Fr = 1 from rfl, Nat.zero_mul, Nat.add_zero] at g0 g1 g2
              have tq := (sq1.th _ _ _ _ rfl).2
              have tz := (hvz.th _ _ _ _ rfl).2
              simp only [Lt, Nat.not_lt] at hnbq hnbs hnbz
              generalize Q[0] = x0 at *
              generalize Z[0][0] = x2 at *
              generalize Z[0].length = lz at *
              clear hcq hcs hcz hvz sq1 ss1
              have o11 := alloc_obj wB (.cells #[.int .i64 (f + m), .slice (some ⟨bq, oq, none⟩) Q.length eq, .slice (some ⟨bs, os, none⟩) Z.length es, .slice Ct n3 et, .bool ov1] 88)
              have hc11 := (Chg.refl No wB).alloc (.cells #[.int .i64 (f + m), .slice (some ⟨bq, oq, none⟩) Q.length eq, .slice (some ⟨bs, os, none⟩) Z.length es, .slice Ct n3 et, .bool ov1] 88)
              replace g0 := hc11.cell g0 (not_no _)
              replace g1 := hc11.cell g1 (not_no _)
              replace g2 := hc11.cell g2 (not_no _)
              replace tq : ∃ C T, (wB.alloc (.cells #[.int .i64 (f + m), .slice (some ⟨bq, oq, none⟩) Q.length eq, .slice (some ⟨bs, os, none⟩) Z.length es, .slice Ct n3 et, .bool ov1] 88)).heap[bq]? = some (.cells C T (0, 0)) := by obtain ⟨C, T, h⟩ := tq; exact ⟨C, T, hc11.obj h (not_no _)⟩
              replace tz : ∃ C T, (wB.alloc (.cells #[.int .i64 (f + m), .slice (some ⟨bq, oq, none⟩) Q.length eq, .slice (some ⟨bs, os, none⟩) Z.length es, .slice Ct n3 et, .bool ov1] 88)).heap[bz]? = some (.cells C T (0, 0)) := by obtain ⟨C, T, h⟩ := tz; exact ⟨C, T, hc11.obj h (not_no _)⟩
              have cB := hcA.trans (hB.trans hc11)
              have y1 := cell_obj (i := 1) o11 rfl
              have y2 := cell_obj (i := 2) o11 rfl
              have hnq : (((Q.length : Nat) : Int) == 0) = false := beq_false_of_ne (by omega)
              have hnz : (((Z.length : Nat) : Int) == 0) = false := beq_false_of_ne (by omega)
              have fq : (wB.alloc (.cells #[.int .i64 (f + m), .slice (some ⟨bq, oq, none⟩) Q.length eq, .slice (some ⟨bs, os, none⟩) Z.length es, .slice Ct n3 et, .bool ov1] 88)).frozen? ⟨bq, oq, none⟩ = false := by obtain ⟨C, T, h⟩ := tq; exact free_obj h
              have hneq : bq ≠ wB.heap.size := by omega
              have hne1 : bq ≠ bs ∨ (bq = bs ∧ oq ≠ os) := by
                have hab := cells_ne g0 g1
                by_cases e : bq = bs
                · exact .inr ⟨e, fun e' => hab (by rw [e, e'])⟩
                · exact .inl e
              have hne2 : bz ≠ bq ∨ (bz = bq ∧ oz ≠ oq) ∨ (bz = bq ∧ oz = oq) := by
                by_cases e : bz = bq
                · by_cases e' : oz = oq
                  · exact .inr (.inr ⟨e, e'⟩)
                  · exact .inr (.inl ⟨e, e'⟩)
                · exact .inl e
              have fz : (((wB.alloc (.cells #[.int .i64 (f + m), .slice (some ⟨bq, oq, none⟩) Q.length eq, .slice (some ⟨bs, os, none⟩) Z.length es, .slice Ct n3 et, .bool ov1] 88)).setCell ⟨bq, oq, none⟩ (.int .i64 77))).frozen? ⟨bz, oz, none⟩ = false := by obtain ⟨C, T, h⟩ := free_set (b := bq) (i := oq) (u := .int .i64 77) tz; exact free_obj h
              have fz0 : (wB.alloc (.cells #[.int .i64 (f + m), .slice (some ⟨bq, oq, none⟩) Q.length eq, .slice (some ⟨bs, os, none⟩) Z.length es, .slice Ct n3 et, .bool ov1] 88)).frozen? ⟨bz, oz, none⟩ = false := by obtain ⟨C, T, h⟩ := tz; exact free_obj h
              have cC : Chg No wA ((wB.alloc (.cells #[.int .i64 (f + m), .slice (some ⟨bq, oq, none⟩) Q.length eq, .slice (some ⟨bs, os, none⟩) Z.length es, .slice Ct n3 et, .bool ov1] 88)).setCell ⟨bq, oq, none⟩ (.int .i64 77)) := cB.setCell (p := ⟨bq, oq, none⟩) (.inr (Nat.le_trans hcA.size hnbq)) _
              have Hfin := Lib.hid (show Chg No wA ((((wB.alloc (.cells #[.int .i64 (f + m), .slice (some ⟨bq, oq, none⟩) Q.length eq, .slice (some ⟨bs, os, none⟩) Z.length es, .slice Ct n3 et, .bool ov1] 88)).setCell ⟨bq, oq, none⟩ (.int .i64 77))).setCell ⟨bz, oz, none⟩ (.int .i64 77)) from cC.setCell (p := ⟨bz, oz, none⟩) (.inr (Nat.le_trans hcA.size hnbz)) _)
              clear tq tz cC o11 hc11 cB hbq hbs hbz hnbq hnbs hnbz
              have hb1s : bs ≠ bq ∨ (bq = bs ∧ os ≠ oq) := by rcases hne1 with h | ⟨h, h'⟩; exact .inl (fun e => h e.symm); exact .inr ⟨h, fun e => h' e.symm⟩
              rcases hne2 with hb2 | ⟨rfl, ho2⟩ | ⟨rfl, rfl⟩
              focus
                have hb3 : bq ≠ bz := fun e => hb2 e.symm
                rcases hne1 with hb1 | ⟨rfl, ho1⟩
                focus
                  have hb4 : bs ≠ bq := fun e => hb1 e.symm
                  go_wp2_with (first | (with_reducible refine stop_append ?_) | (with_reducible refine stop_copy ?_) | (with_reducible refine stop_make ?_) | (with_reducible refine stop_lookup ?_) | (with_reducible refine stop_update ?_) | (with_reducible refine stop_slice ?_) | (with_reducible refine stop_range ?_) | (with_reducible refine stop_next ?_) | (with_reducible refine stop_convert ⟨_, rfl⟩ ?_) | (with_reducible refine stop_convertB ⟨_, _, _, rfl⟩ ?_) | (with_reducible refine stop_eqSlice ⟨_, _, rfl⟩ ?_))
                rotate_left
                focus
                  have ho3 : os ≠ oq := fun e => ho1 e.symm
                  go_wp2_with (first | (with_reducible refine stop_append ?_) | (with_reducible refine stop_copy ?_) | (with_reducible refine stop_make ?_) | (with_reducible refine stop_lookup ?_) | (with_reducible refine stop_update ?_) | (with_reducible refine stop_slice ?_) | (with_reducible refine stop_range ?_) | (with_reducible refine stop_next ?_) | (with_reducible refine stop_convert ⟨_, rfl⟩ ?_) | (with_reducible refine stop_convertB ⟨_, _, _, rfl⟩ ?_) | (with_reducible refine stop_eqSlice ⟨_, _, rfl⟩ ?_))
              rotate_left 2
              focus
                have ho4 : oq ≠ oz := fun e => ho2 e.symm
                rcases hne1 with hb1 | ⟨rfl, ho1⟩
                focus
                  have hb4 : bs ≠ bz := fun e => hb1 e.symm
                  go_wp2_with (first | (with_reducible refine stop_append ?_) | (with_reducible refine stop_copy ?_) | (with_reducible refine stop_make ?_) | (with_reducible refine stop_lookup ?_) | (with_reducible refine stop_update ?_) | (with_reducible refine stop_slice ?_) | (with_reducible refine stop_range ?_) | (with_reducible refine stop_next ?_) | (with_reducible refine stop_convert ⟨_, rfl⟩ ?_) | (with_reducible refine stop_convertB ⟨_, _, _, rfl⟩ ?_) | (with_reducible refine stop_eqSlice ⟨_, _, rfl⟩ ?_))
                rotate_left
                focus
                  have ho3 : os ≠ oq := fun e => ho1 e.symm
                  go_wp2_with (first | (with_reducible refine stop_append ?_) | (with_reducible refine stop_copy ?_) | (with_reducible refine stop_make ?_) | (with_reducible refine stop_lookup ?_) | (with_reducible refine stop_update ?_) | (with_reducible refine stop_slice ?_) | (with_reducible refine stop_range ?_) | (with_reducible refine stop_next ?_) | (with_reducible refine stop_convert ⟨_, rfl⟩ ?_) | (with_reducible refine stop_convertB ⟨_, _, _, rfl⟩ ?_) | (with_reducible refine stop_eqSlice ⟨_, _, rfl⟩ ?_))
              rotate_left 2
              focus
                rcases hne1 with hb1 | ⟨rfl, ho1⟩
                focus
                  have hb4 : bs ≠ bz := fun e => hb1 e.symm
                  go_wp2_with (first | (with_reducible refine stop_append ?_) | (with_reducible refine stop_copy ?_) | (with_reducible refine stop_make ?_) | (with_reducible refine stop_lookup ?_) | (with_reducible refine stop_update ?_) | (with_reducible refine stop_slice ?_) | (with_reducible refine stop_range ?_) | (with_reducible refine stop_next ?_) | (with_reducible refine stop_convert ⟨_, rfl⟩ ?_) | (with_reducible refine stop_convertB ⟨_, _, _, rfl⟩ ?_) | (with_reducible refine stop_eqSlice ⟨_, _, rfl⟩ ?_))
                rotate_left
                focus
                  have ho3 : os ≠ oz := fun e => ho1 e.symm
                  go_wp2_with (first | (with_reducible refine stop_append ?_) | (with_reducible refine stop_copy ?_) | (with_reducible refine stop_make ?_) | (with_reducible refine stop_lookup ?_) | (with_reducible refine stop_update ?_) | (with_reducible refine stop_slice ?_) | (with_reducible refine stop_range ?_) | (with_reducible refine stop_next ?_) | (with_reducible refine stop_convert ⟨_, rfl⟩ ?_) | (with_reducible refine stop_convertB ⟨_, _, _, rfl⟩ ?_) | (with_reducible refine stop_eqSlice ⟨_, _, rfl⟩ ?_))
              all_goals
                clear g0 g1 g2 fq fz fz0 y1 y2 hneq
                refine (HR.out _ Hfin.out).mono ?_
                rintro e wF ⟨vq2, vs2, vt2, rfl, hF, sq2, ss2, st2⟩
                obtain ⟨Dq, fq, rfl⟩ := sq2.slice
                obtain ⟨Ds, fs, rfl⟩ := ss2.slice
                obtain ⟨Dt, ft, rfl⟩ := st2.slice
                have cF := Hfin.out.trans hF
                clear Hfin hF st2
                have o13 := alloc_obj wF (.cells #[.int .i64 (f + m), .slice Dq Q.length fq, .slice Ds Z.length fs, .slice Dt L3.length ft, .bool ov1] 88)
                have hc13 := (Chg.refl No wF).alloc (.cells #[.int .i64 (f + m), .slice Dq Q.length fq, .slice Ds Z.length fs, .slice Dt L3.length ft, .bool ov1] 88)
                have cG := cF.trans hc13
                have z0 := cell_obj (i := 0) o13 rfl
                have z1 := cell_obj (i := 1) o13 rfl
                have z2 := cell_obj (i := 2) o13 rfl
                have Hrt := Lib.hid (fun W (hW : Chg No (wF.alloc (.cells #[.int .i64 (f + m), .slice Dq Q.length fq, .slice Ds Z.length fs, .slice Dt L3.length ft, .bool ov1] 88)) W) => tright_any _ _ (f + m) _ _ Q Z W ((sq2.keepNo hc13).keepNo hW) ((ss2.keepNo hc13).keepNo hW) (by have := hsm.1; omega) (by have := hsm.2.1; omega) (fun x hx => by have := hsm.2.2 x hx; omega))
                rw [hrt] at Hrt
                unfold cfgV at Hrt
                clear sq2 ss2 o13 hc13
                go_wp2_with (first | (with_reducible refine stop_append ?_) | (with_reducible refine stop_copy ?_) | (with_reducible refine stop_make ?_) | (with_reducible refine stop_lookup ?_) | (with_reducible refine stop_update ?_) | (with_reducible refine stop_slice ?_) | (with_reducible refine stop_range ?_) | (with_reducible refine stop_next ?_) | (with_reducible refine stop_convert ⟨_, rfl⟩ ?_) | (with_reducible refine stop_convertB ⟨_, _, _, rfl⟩ ?_) | (with_reducible refine stop_eqSlice ⟨_, _, rfl⟩ ?_))
                generalize wF.alloc (.cells #[.int .i64 (f + m), .slice Dq Q.length fq, .slice Ds Z.length fs, .slice Dt L3.length ft, .bool ov1] 88) = wG at *
                refine (Hrt.out _ (Chg.refl _ _)).mono ?_
                rintro e wH ⟨rfl, hH⟩
                replace z0 := hH.cell z0 (not_no _)
                have cH := cG.trans hH
                go_wp2_with (first | (with_reducible refine stop_append ?_) | (with_reducible refine stop_copy ?_) | (with_reducible refine stop_make ?_) | (with_reducible refine stop_lookup ?_) | (with_reducible refine stop_update ?_) | (with_reducible refine stop_slice ?_) | (with_reducible refine stop_range ?_) | (with_reducible refine stop_next ?_) | (with_reducible refine stop_convert ⟨_, rfl⟩ ?_) | (with_reducible refine stop_convertB ⟨_, _, _, rfl⟩ ?_) | (with_reducible refine stop_eqSlice ⟨_, _, rfl⟩ ?_))
                go_roundw
                case rel => exact ⟨m + 1, by omega, congrArg (Value.int .i64) (by omega), cH⟩
                case measure => simp [intOf]; omega
            · have hle : ¬ f + (m : Int) ≤ f + mm := by have := Hmm.out; omega
              go_wp2_with (first | (with_reducible refine stop_append ?_) | (with_reducible refine stop_copy ?_) | (with_reducible refine stop_make ?_) | (with_reducible refine stop_lookup ?_) | (with_reducible refine stop_update ?_) | (with_reducible refine stop_slice ?_) | (with_reducible refine stop_range ?_) | (with_reducible refine stop_next ?_) | (with_reducible refine stop_convert ⟨_, rfl⟩ ?_) | (with_reducible refine stop_convertB ⟨_, _, _, rfl⟩ ?_) | (with_reducible refine stop_eqSlice ⟨_, _, rfl⟩ ?_))
              refine (Hal.out _).mono ?_
              rintro e wB ⟨rfl, hB⟩
              have cB := hcA.trans hB
              go_wp2_with (first | (with_reducible refine stop_append ?_) | (with_reducible refine stop_copy ?_) | (with_reducible refine stop_make ?_) | (with_reducible refine stop_lookup ?_) | (with_reducible refine stop_update ?_) | (with_reducible refine stop_slice ?_) | (with_reducible refine stop_range ?_) | (with_reducible refine stop_next ?_) | (with_reducible refine stop_convert ⟨_, rfl⟩ ?_) | (with_reducible refine stop_convertB ⟨_, _, _, rfl⟩ ?_) | (with_reducible refine stop_eqSlice ⟨_, _, rfl⟩ ?_))
              refine (Hcur.out _ cB).mono ?_
              rintro e wC ⟨rfl, hC⟩
              go_wp2_with (first | (with_reducible refine stop_append ?_) | (with_reducible refine stop_copy ?_) | (with_reducible refine stop_make ?_) | (with_reducible refine stop_lookup ?_) | (with_reducible refine stop_update ?_) | (with_reducible refine stop_slice ?_) | (with_reducible refine stop_range ?_) | (with_reducible refine stop_next ?_) | (with_reducible refine stop_convert ⟨_, rfl⟩ ?_) | (with_reducible refine stop_convertB ⟨_, _, _, rfl⟩ ?_) | (with_reducible refine stop_eqSlice ⟨_, _, rfl⟩ ?_))
              go_ret
              exact ⟨rfl, (((hcw2.old hcr (fun i hi => by simp only [Ge] at hi; omega)).trans cB)).trans hC⟩
end Go.Proofs.Ytbjpoamnglfjeaa

/- Walk of the law RegisterFinds. -/
import Derived.Test.YtbjpoamnglfjeaaRgaA
import Derived.Test.YtbjpoamnglfjeaaRegW
set_option linter.unusedVariables false
set_option linter.unusedSimpArgs false
namespace Go.Proofs.Ytbjpoamnglfjeaa
open Go.RowKit Cb

set_option maxRecDepth 100000 in
set_option maxHeartbeats 8000000 in
theorem rfinds_any (t : Int) (vq vs v : Value) (q : List Int) (s : List (List Int)) (l : List Op) (n : Int) (w : World) (hq : Sl No w vq q) (hs : Sl No w vs s) (h : Sl No w v l) (hl : l.length * 80 ≤ 140737488355328) (hc : CfgI q s) (ho : ∀ o ∈ l, OpI o) :
    Calls Try.prog 7 #[cfgV t vq vs, v, .int .i64 n] w fun e w' => e = .returned (.bool true) ∧ Chg No w w' := by
  have Hfew := Lib.hid (fun W (hW : Chg No w W) => fewr_any No No No t vq vs v q s l W (hq.keepNo hW) (hs.keepNo hW) (h.keepNo hW) (by omega) hc ho)
  have Hno := Lib.hid (fun (hr : rightC t q s = false) W (hW : Chg No w W) => new_no No No t vq vs q s W (hq.keepNo hW) (hs.keepNo hW) hc.1 (by have := hc.2.1; omega) hc.2.2 hr)
  have Hyes := Lib.hid (fun (hr : rightC t q s = true) W (hW : Chg No w W) => new_yes t vq vs q s W (hq.keepNo hW) (hs.keepNo hW) hr)
  have Hal := Lib.hid (fun W => ralive_any W)
  obtain ⟨Aq, cq, rfl⟩ := hq.slice
  obtain ⟨As, cs, rfl⟩ := hs.slice
  obtain ⟨A, c, rfl⟩ := h.slice
  have Hs := Lib.hid h
  have Ho := Lib.hid ho
  unfold cfgV at *
  have o1 := alloc_obj w (.cells #[.int .i64 t, .slice Aq q.length cq, .slice As s.length cs] 63)
  have hc0 := (Chg.refl No w).alloc (.cells #[.int .i64 t, .slice Aq q.length cq, .slice As s.length cs] 63)
  have a0 := cell_obj (i := 0) o1 rfl
  have a1 := cell_obj (i := 1) o1 rfl
  have a2 := cell_obj (i := 2) o1 rfl
  clear hq hs h hc ho
  go_enter Try.func7, Try.ntmps7
  go_wp2_with (first | (with_reducible refine stop_append ?_) | (with_reducible refine stop_copy ?_) | (with_reducible refine stop_make ?_) | (with_reducible refine stop_lookup ?_) | (with_reducible refine stop_update ?_) | (with_reducible refine stop_slice ?_) | (with_reducible refine stop_range ?_) | (with_reducible refine stop_next ?_) | (with_reducible refine stop_convert ⟨_, rfl⟩ ?_) | (with_reducible refine stop_convertB ⟨_, _, _, rfl⟩ ?_) | (with_reducible refine stop_eqSlice ⟨_, _, rfl⟩ ?_))
  generalize w.alloc (.cells #[.int .i64 t, .slice Aq q.length cq, .slice As s.length cs] 63) = w0 at *
  rcases hr : rightC t q s with _ | _
  · refine (Hno.out hr w0 hc0).mono ?_
    rintro e w1 ⟨rfl, hc1⟩
    go_wp2_with (first | (with_reducible refine stop_append ?_) | (with_reducible refine stop_copy ?_) | (with_reducible refine stop_make ?_) | (with_reducible refine stop_lookup ?_) | (with_reducible refine stop_update ?_) | (with_reducible refine stop_slice ?_) | (with_reducible refine stop_range ?_) | (with_reducible refine stop_next ?_) | (with_reducible refine stop_convert ⟨_, rfl⟩ ?_) | (with_reducible refine stop_convertB ⟨_, _, _, rfl⟩ ?_) | (with_reducible refine stop_eqSlice ⟨_, _, rfl⟩ ?_))
    refine (Hal.out _).mono ?_
    rintro e w2 ⟨rfl, hc2⟩
    go_wp2_with (first | (with_reducible refine stop_append ?_) | (with_reducible refine stop_copy ?_) | (with_reducible refine stop_make ?_) | (with_reducible refine stop_lookup ?_) | (with_reducible refine stop_update ?_) | (with_reducible refine stop_slice ?_) | (with_reducible refine stop_range ?_) | (with_reducible refine stop_next ?_) | (with_reducible refine stop_convert ⟨_, rfl⟩ ?_) | (with_reducible refine stop_convertB ⟨_, _, _, rfl⟩ ?_) | (with_reducible refine stop_eqSlice ⟨_, _, rfl⟩ ?_))
    go_ret
    exact ⟨rfl, (hc0.trans hc1).trans hc2⟩
  · have Hri := Lib.hid (new_reg hr)
    refine (Hyes.out hr w0 hc0).mono ?_
    rintro e w1 ⟨p, rfl, hc1, hreg⟩
    have Hreg := Lib.hid hreg
    clear hreg hr Hno Hyes
    have hcw1 := hc0.trans hc1
    replace a0 := hc1.cell a0 (not_no _)
    replace a1 := hc1.cell a1 (not_no _)
    replace a2 := hc1.cell a2 (not_no _)
    go_wp2_with (first | (with_reducible refine stop_append ?_) | (with_reducible refine stop_copy ?_) | (with_reducible refine stop_make ?_) | (with_reducible refine stop_lookup ?_) | (with_reducible refine stop_update ?_) | (with_reducible refine stop_slice ?_) | (with_reducible refine stop_range ?_) | (with_reducible refine stop_next ?_) | (with_reducible refine stop_convert ⟨_, rfl⟩ ?_) | (with_reducible refine stop_convertB ⟨_, _, _, rfl⟩ ?_) | (with_reducible refine stop_eqSlice ⟨_, _, rfl⟩ ?_))
    refine (Hfew.out _ hcw1).mono ?_
    rintro e w2 ⟨⟨b, rfl⟩, hc2⟩
    have hcw2 := hcw1.trans hc2
    rcases b with _ | _
    · go_wp2_with (first | (with_reducible refine stop_append ?_) | (with_reducible refine stop_copy ?_) | (with_reducible refine stop_make ?_) | (with_reducible refine stop_lookup ?_) | (with_reducible refine stop_update ?_) | (with_reducible refine stop_slice ?_) | (with_reducible refine stop_range ?_) | (with_reducible refine stop_next ?_) | (with_reducible refine stop_convert ⟨_, rfl⟩ ?_) | (with_reducible refine stop_convertB ⟨_, _, _, rfl⟩ ?_) | (with_reducible refine stop_eqSlice ⟨_, _, rfl⟩ ?_))
      refine (Hal.out _).mono ?_
      rintro e w3 ⟨rfl, hc3⟩
      go_wp2_with (first | (with_reducible refine stop_append ?_) | (with_reducible refine stop_copy ?_) | (with_reducible refine stop_make ?_) | (with_reducible refine stop_lookup ?_) | (with_reducible refine stop_update ?_) | (with_reducible refine stop_slice ?_) | (with_reducible refine stop_range ?_) | (with_reducible refine stop_next ?_) | (with_reducible refine stop_convert ⟨_, rfl⟩ ?_) | (with_reducible refine stop_convertB ⟨_, _, _, rfl⟩ ?_) | (with_reducible refine stop_eqSlice ⟨_, _, rfl⟩ ?_))
      go_ret
      exact ⟨rfl, hcw2.trans hc3⟩
    · by_cases hn0 : n < 0
      · go_wp2_with (first | (with_reducible refine stop_append ?_) | (with_reducible refine stop_copy ?_) | (with_reducible refine stop_make ?_) | (with_reducible refine stop_lookup ?_) | (with_reducible refine stop_update ?_) | (with_reducible refine stop_slice ?_) | (with_reducible refine stop_range ?_) | (with_reducible refine stop_next ?_) | (with_reducible refine stop_convert ⟨_, rfl⟩ ?_) | (with_reducible refine stop_convertB ⟨_, _, _, rfl⟩ ?_) | (with_reducible refine stop_eqSlice ⟨_, _, rfl⟩ ?_))
        refine (Hal.out _).mono ?_
        rintro e w3 ⟨rfl, hc3⟩
        go_wp2_with (first | (with_reducible refine stop_append ?_) | (with_reducible refine stop_copy ?_) | (with_reducible refine stop_make ?_) | (with_reducible refine stop_lookup ?_) | (with_reducible refine stop_update ?_) | (with_reducible refine stop_slice ?_) | (with_reducible refine stop_range ?_) | (with_reducible refine stop_next ?_) | (with_reducible refine stop_convert ⟨_, rfl⟩ ?_) | (with_reducible refine stop_convertB ⟨_, _, _, rfl⟩ ?_) | (with_reducible refine stop_eqSlice ⟨_, _, rfl⟩ ?_))
        go_ret
        exact ⟨rfl, hcw2.trans hc3⟩
      by_cases hn1 : 1099511627776 < n
      · go_wp2_with (first | (with_reducible refine stop_append ?_) | (with_reducible refine stop_copy ?_) | (with_reducible refine stop_make ?_) | (with_reducible refine stop_lookup ?_) | (with_reducible refine stop_update ?_) | (with_reducible refine stop_slice ?_) | (with_reducible refine stop_range ?_) | (with_reducible refine stop_next ?_) | (with_reducible refine stop_convert ⟨_, rfl⟩ ?_) | (with_reducible refine stop_convertB ⟨_, _, _, rfl⟩ ?_) | (with_reducible refine stop_eqSlice ⟨_, _, rfl⟩ ?_))
        refine (Hal.out _).mono ?_
        rintro e w3 ⟨rfl, hc3⟩
        go_wp2_with (first | (with_reducible refine stop_append ?_) | (with_reducible refine stop_copy ?_) | (with_reducible refine stop_make ?_) | (with_reducible refine stop_lookup ?_) | (with_reducible refine stop_update ?_) | (with_reducible refine stop_slice ?_) | (with_reducible refine stop_range ?_) | (with_reducible refine stop_next ?_) | (with_reducible refine stop_convert ⟨_, rfl⟩ ?_) | (with_reducible refine stop_convertB ⟨_, _, _, rfl⟩ ?_) | (with_reducible refine stop_eqSlice ⟨_, _, rfl⟩ ?_))
        go_ret
        exact ⟨rfl, hcw2.trans hc3⟩
      clear a0 a1 a2 o1 Hfew
      obtain ⟨B, hB⟩ : ∃ B, B = w0.heap.size := ⟨_, rfl⟩
      have Hreg2 := Lib.hid (Hreg.out.keepNo hc2)
      rw [← hB] at Hreg2
      have hwB : w.heap.size ≤ B := by have := hc0.size; omega
      have HsB := Lib.hid (fun W (hW : Chg (Ge B) w2 W) => ((Sl.up (Hs.out.keepNo hc0) (Nat.le_of_eq hB.symm)).keepNo (hc1.trans hc2)).keep hW)
      clear Hreg Hs hc1 hc0 hB
      go_wp2_with (first | (with_reducible refine stop_append ?_) | (with_reducible refine stop_copy ?_) | (with_reducible refine stop_make ?_) | (with_reducible refine stop_lookup ?_) | (with_reducible refine stop_update ?_) | (with_reducible refine stop_slice ?_) | (with_reducible refine stop_range ?_) | (with_reducible refine stop_next ?_) | (with_reducible refine stop_convert ⟨_, rfl⟩ ?_) | (with_reducible refine stop_convertB ⟨_, _, _, rfl⟩ ?_) | (with_reducible refine stop_eqSlice ⟨_, _, rfl⟩ ?_))
      go_loopw [10, 46] (fun _ v46 wr => ∃ (k : Nat) (rows : List Rw), k ≤ l.length ∧ v46 = .int .i64 k ∧ Chg (Ge B) w2 wr ∧ RegS wr B p rows ∧ RegI rows) (fun _ v46 _ => l.length - (intOf v46).toNat)
      case atStart => exact ⟨0, _, by omega, rfl, Chg.refl _ _, Hreg2.out, Hri.out⟩
      case round =>
        obtain ⟨k, rows, hk, rfl, hcr, hreg, hri⟩ := hrel
        by_cases hlt : k < l.length
        · obtain ⟨b4, o4, vq4, vs4, vt4, rfl, -, hbl, sq, ss, st, k0, k1, k2, k3⟩ := op_get (HsB.out wr hcr) k hlt
          obtain ⟨hcx, hlx⟩ := Ho.out _ (List.getElem_mem hlt)
          generalize l[k] = x at *
          obtain ⟨⟨xt, xq, xs⟩, xl⟩ := x
          simp only at k0 k1 k2 k3 sq ss st hcx hlx
          have hfir := Lib.hid (install_reg xt xq xs hri hlx)
          have Hri := Lib.hid hri
          have Hxq := Lib.hid sq
          have Hxs := Lib.hid ss
          have Hxt := Lib.hid st
          obtain ⟨Bq, dq, rfl⟩ := sq.slice
          obtain ⟨Bs, ds, rfl⟩ := ss.slice
          obtain ⟨Bt, dt, rfl⟩ := st.slice
          have Hreg3 := Lib.hid hreg
          have o8 := alloc_obj wr (.cells #[.int .i64 xt, .slice Bq xq.length dq, .slice Bs xs.length ds, .slice Bt xl.length dt] 71)
          have hc8 := (Chg.refl No wr).alloc (.cells #[.int .i64 xt, .slice Bq xq.length dq, .slice Bs xs.length ds, .slice Bt xl.length dt] 71)
          have c0 := cell_obj (i := 0) o8 rfl
          have c1 := cell_obj (i := 1) o8 rfl
          have c2 := cell_obj (i := 2) o8 rfl
          have c3 := cell_obj (i := 3) o8 rfl
          have Hmine := Lib.hid (fun W (hW : Chg No wr W) => mine14_any (.slice Bt xl.length dt) xl W (Hxt.out.no.keepNo hW) (by have := hlx.1; omega))
          have Hinst := Lib.hid (fun W vm (hW : Chg No wr W) (hm : Sl No W vm xl) => install_any B p rows xt (.slice Bq xq.length dq) (.slice Bs xs.length ds) vm xq xs xl W (Hreg3.out.keepNo hW) Hri.out.1 (Hxq.out.keepNo hW) (Hxs.out.keepNo hW) hm hcx hlx)
          unfold cfgV at Hinst
          clear sq ss st hreg hri
          generalize installF rows xt xq xs xl = cr at *
          obtain ⟨code, rows2⟩ := cr
          simp only at hfir Hinst
          go_wp2_with (first | (with_reducible refine stop_append ?_) | (with_reducible refine stop_copy ?_) | (with_reducible refine stop_make ?_) | (with_reducible refine stop_lookup ?_) | (with_reducible refine stop_update ?_) | (with_reducible refine stop_slice ?_) | (with_reducible refine stop_range ?_) | (with_reducible refine stop_next ?_) | (with_reducible refine stop_convert ⟨_, rfl⟩ ?_) | (with_reducible refine stop_convertB ⟨_, _, _, rfl⟩ ?_) | (with_reducible refine stop_eqSlice ⟨_, _, rfl⟩ ?_))
          obtain ⟨b8, hb8⟩ : ∃ b, b = wr.heap.size := ⟨_, rfl⟩
          generalize wr.alloc (.cells #[.int .i64 xt, .slice Bq xq.length dq, .slice Bs xs.length ds, .slice Bt xl.length dt] 71) = wA at *
          rw [← hb8] at c0 c1 c2 c3 o8 ⊢
          clear hb8 k0 k1 k2 k3 hbl
          have HS := Lib.hid (show ∀ W : World, W.heap[b8]? = some (.cells #[.int .i64 xt, .slice Bq xq.length dq, .slice Bs xs.length ds, .slice Bt xl.length dt] 71) → (fun W => W.cell? ⟨b8, 0, none⟩ = some (.int .i64 xt) ∧ W.cell? ⟨b8, 1, none⟩ = some (.slice Bq xq.length dq) ∧ W.cell? ⟨b8, 2, none⟩ = some (.slice Bs xs.length ds) ∧ W.cell? ⟨b8, 3, none⟩ = some (.slice Bt xl.length dt)) W from fun W hW => ⟨cell_obj (i := 0) hW rfl, cell_obj (i := 1) hW rfl, cell_obj (i := 2) hW rfl, cell_obj (i := 3) hW rfl⟩)
          have cd := (Chg.refl No wA).drew
          refine rt_start (fun W => W.cell? ⟨b8, 0, none⟩ = some (.int .i64 xt) ∧ W.cell? ⟨b8, 1, none⟩ = some (.slice Bq xq.length dq) ∧ W.cell? ⟨b8, 2, none⟩ = some (.slice Bs xs.length ds) ∧ W.cell? ⟨b8, 3, none⟩ = some (.slice Bt xl.length dt)) (by kernel_rfl) ?_
          ((refine rt_yes (i := 0) (oi := { dst := some 50, op := Go.Op.move (Go.Operand.tmp 7), type := 65, pos := "law.go:145", after := #[], guard := none }) (v := ?_) rfl (by kernel_rfl) (by kernel_rfl) (by kernel_rfl) (fun _ _ _ h => h) rfl ?_ ?_); rotate_left; focus (intro W hW; (try dsimp only at hW); go_split_ands; go_simp; (try (simp (disch := omega) only [IntWalk.i64_in]; (try go_simp))); (try (split; (next => omega); (try go_simp))); try rfl; done))
          try simp only [Act.put, List.setIfInBounds_toArray, List.set_cons_zero, List.set_cons_succ]
          ((refine rt_yes (i := 1) (oi := { dst := some 51, op := Go.Op.fieldAddr 71 (Go.Operand.tmp 10) 0, type := 0, pos := "law.go:145", after := #[], guard := none }) (v := ?_) rfl (by kernel_rfl) (by kernel_rfl) (by kernel_rfl) (fun _ _ _ h => h) rfl ?_ ?_); rotate_left; focus (intro W hW; (try dsimp only at hW); go_split_ands; go_simp; (try (simp (disch := omega) only [IntWalk.i64_in]; (try go_simp))); (try (split; (next => omega); (try go_simp))); try rfl; done))
          try simp only [Act.put, List.setIfInBounds_toArray, List.set_cons_zero, List.set_cons_succ]
          ((refine rt_yes (i := 2) (oi := { dst := some 52, op := Go.Op.load 63 (Go.Operand.tmp 51), type := 63, pos := "law.go:145", after := #[{ on := 1, ground := Go.Ground.data }], guard := none }) (v := ?_) rfl (by kernel_rfl) (by kernel_rfl) (by kernel_rfl) (fun _ _ _ h => h) rfl ?_ ?_); rotate_left; focus (intro W hW; (try dsimp only at hW); go_split_ands; go_simp; (try (simp (disch := omega) only [IntWalk.i64_in]; (try go_simp))); (try (split; (next => omega); (try go_simp))); try rfl; done))
          try simp only [Act.put, List.setIfInBounds_toArray, List.set_cons_zero, List.set_cons_succ]
          ((refine rt_yes (i := 3) (oi := { dst := some 53, op := Go.Op.fieldAddr 71 (Go.Operand.tmp 10) 1, type := 0, pos := "law.go:145", after := #[], guard := none }) (v := ?_) rfl (by kernel_rfl) (by kernel_rfl) (by kernel_rfl) (fun _ _ _ h => h) rfl ?_ ?_); rotate_left; focus (intro W hW; (try dsimp only at hW); go_split_ands; go_simp; (try (simp (disch := omega) only [IntWalk.i64_in]; (try go_simp))); (try (split; (next => omega); (try go_simp))); try rfl; done))
          try simp only [Act.put, List.setIfInBounds_toArray, List.set_cons_zero, List.set_cons_succ]
          ((refine rt_yes (i := 4) (oi := { dst := some 54, op := Go.Op.load 22 (Go.Operand.tmp 53), type := 22, pos := "law.go:145", after := #[{ on := 3, ground := Go.Ground.data }], guard := none }) (v := ?_) rfl (by kernel_rfl) (by kernel_rfl) (by kernel_rfl) (fun _ _ _ h => h) rfl ?_ ?_); rotate_left; focus (intro W hW; (try dsimp only at hW); go_split_ands; go_simp; (try (simp (disch := omega) only [IntWalk.i64_in]; (try go_simp))); (try (split; (next => omega); (try go_simp))); try rfl; done))
          try simp only [Act.put, List.setIfInBounds_toArray, List.set_cons_zero, List.set_cons_succ]
          -- ready: [5]
          refine rt_k (fun W => W.cell? ⟨b8, 0, none⟩ = some (.int .i64 xt) ∧ W.cell? ⟨b8, 1, none⟩ = some (.slice Bq xq.length dq) ∧ W.cell? ⟨b8, 2, none⟩ = some (.slice Bs xs.length ds) ∧ W.cell? ⟨b8, 3, none⟩ = some (.slice Bt xl.length dt)) (i := 5) (oi := { dst := some 55, op := Go.Op.call { callee := Go.Callee.value (Go.Operand.func 34), args := #[Go.Operand.tmp 54], argTypes := #[22] }, type := 28, pos := "law.go:145", after := #[{ on := 4, ground := Go.Ground.data }], guard := none }) (by kernel_rfl) (HS.out _ (cd.obj o8 (not_no _))) (fun _ h => h) rfl (by rfl) (fun K hK => ?_)
          go_simp
          refine (Hmine.out _ (hc8.trans cd)).mono ?_
          rintro e w6 ⟨vm, rfl, h6, sm⟩
          have cd6 := cd.trans h6
          refine hK _ _ ?_
          clear hK K
          try simp only [Act.put, List.setIfInBounds_toArray, List.set_cons_zero, List.set_cons_succ]
          -- ready: [6]
          refine rt_k (fun W => W.cell? ⟨b8, 0, none⟩ = some (.int .i64 xt) ∧ W.cell? ⟨b8, 1, none⟩ = some (.slice Bq xq.length dq) ∧ W.cell? ⟨b8, 2, none⟩ = some (.slice Bs xs.length ds) ∧ W.cell? ⟨b8, 3, none⟩ = some (.slice Bt xl.length dt)) (i := 6) (oi := { dst := some 56, op := Go.Op.call { callee := Go.Callee.value (Go.Operand.func 33), args := #[Go.Operand.tmp 50, Go.Operand.tmp 52, Go.Operand.tmp 55], argTypes := #[65, 68, 28] }, type := 54, pos := "law.go:145", after := #[{ on := 0, ground := Go.Ground.data }, { on := 2, ground := Go.Ground.data }, { on := 5, ground := Go.Ground.data }, { on := 5, ground := Go.Ground.chain }], guard := none }) (by kernel_rfl) (HS.out _ (cd6.obj o8 (not_no _))) (fun _ h => h) rfl (by rfl) (fun K hK => ?_)
          go_simp
          refine (Hinst.out _ _ (hc8.trans cd6) sm).mono ?_
          rintro e w7 ⟨rfl, hin, hr7⟩
          have c7r : Chg (Ge B) w2 w7 := (hcr.trans (hc8.trans cd6).of_no).trans (hin.ge (Hreg3.out.keepNo (hc8.trans cd6)))
          have Hr7 := Lib.hid hr7
          refine hK _ _ ?_
          clear hK K
          try simp only [Act.put, List.setIfInBounds_toArray, List.set_cons_zero, List.set_cons_succ]
          -- ready: []
          refine rt_done (by kernel_rfl)  ?_
          clear c0 c1 c2 c3 o8 hin hr7 sm cd cd6
          go_wp2_with (first | (with_reducible refine stop_append ?_) | (with_reducible refine stop_copy ?_) | (with_reducible refine stop_make ?_) | (with_reducible refine stop_lookup ?_) | (with_reducible refine stop_update ?_) | (with_reducible refine stop_slice ?_) | (with_reducible refine stop_range ?_) | (with_reducible refine stop_next ?_) | (with_reducible refine stop_convert ⟨_, rfl⟩ ?_) | (with_reducible refine stop_convertB ⟨_, _, _, rfl⟩ ?_) | (with_reducible refine stop_eqSlice ⟨_, _, rfl⟩ ?_))
          go_roundw
          case rel => exact ⟨k + 1, rows2, by omega, by go_num, c7r, Hr7.out, hfir.out.1⟩
          case measure => simp [intOf]; omega
        · obtain rfl : k = l.length := by omega
          have hi0 := hri.1.1
          have h64 := hri.1.2.1
          have hfb := first_bound hri.1
          have Hrs := Lib.hid (fun W (hW : Chg No wr W) => hreg.keepNo hW)
          have Hfst := Lib.hid (fun W (hW : Chg No wr W) => rfirst_any B p rows W (Hrs.out W hW) hri.1)
          have Hcur := Lib.hid (fun W (hW : Chg No wr W) => rcurrent_any B p rows W (Hrs.out W hW) hri.1)
          have Hyes := Lib.hid (fun m (hm : m < rows.length) W (hW : Chg No wr W) => rstart_yes B p rows W (Hrs.out W hW) hri.1 m hm)
          have Hnot := Lib.hid (fun W (hW : Chg No wr W) => rstart_no B p rows W (Hrs.out W hW) hri.1 (firstR rows + rows.length) (by omega))
          have Hfind := Lib.hid (fun pos (hp : 0 ≤ pos) W (hW : Chg No wr W) => rfind_any B p rows W (Hrs.out W hW) hri.1 pos hp)
          have Hlaw := Lib.hid (fun m hm h0 h1 => find_law hri m hm n h0 h1)
          have Hsb := Lib.hid (start_bound rows h64)
          have Hnx := Lib.hid (start_next rows h64)
          obtain ⟨nn, hnn⟩ : ∃ o, o = rows.length := ⟨_, rfl⟩
          obtain ⟨mm, hmm⟩ : ∃ o, o = rows.length - 1 := ⟨_, rfl⟩
          rw [← hnn] at hi0 h64
          rw [← hmm] at hfb Hcur
          have Hnn := Lib.hid hnn
          have Hmm := Lib.hid (show nn = mm + 1 by omega)
          clear hnn hmm hri hreg
          obtain ⟨wA, rfl⟩ : ∃ W : World, W = wr := ⟨_, rfl⟩
          generalize firstR rows = f at *
          go_wp2_with (first | (with_reducible refine stop_append ?_) | (with_reducible refine stop_copy ?_) | (with_reducible refine stop_make ?_) | (with_reducible refine stop_lookup ?_) | (with_reducible refine stop_update ?_) | (with_reducible refine stop_slice ?_) | (with_reducible refine stop_range ?_) | (with_reducible refine stop_next ?_) | (with_reducible refine stop_convert ⟨_, rfl⟩ ?_) | (with_reducible refine stop_convertB ⟨_, _, _, rfl⟩ ?_) | (with_reducible refine stop_eqSlice ⟨_, _, rfl⟩ ?_))
          refine (Hfst.out _ (Chg.refl _ _)).mono ?_
          rintro e w3 ⟨rfl, hc3⟩
          go_wp2_with (first | (with_reducible refine stop_append ?_) | (with_reducible refine stop_copy ?_) | (with_reducible refine stop_make ?_) | (with_reducible refine stop_lookup ?_) | (with_reducible refine stop_update ?_) | (with_reducible refine stop_slice ?_) | (with_reducible refine stop_range ?_) | (with_reducible refine stop_next ?_) | (with_reducible refine stop_convert ⟨_, rfl⟩ ?_) | (with_reducible refine stop_convertB ⟨_, _, _, rfl⟩ ?_) | (with_reducible refine stop_eqSlice ⟨_, _, rfl⟩ ?_))
          go_loopw [11, 12, 13, 14, 15, 16, 17] (fun v11 _ _ _ _ _ _ wr => ∃ m : Nat, m ≤ nn ∧ v11 = .int .i64 (f + m) ∧ Chg No wA wr) (fun v11 _ _ _ _ _ _ _ => (f + nn - intOf v11).toNat)
          case atStart => exact ⟨0, by omega, congrArg (Value.int .i64) (by omega), hc3⟩
          case round =>
            obtain ⟨m, hm, rfl, hcA⟩ := hrel
            by_cases hlm : m < nn
            · have hle : f + (m : Int) ≤ f + mm := by have := Hmm.out; omega
              have hl64 : f + (m : Int) < f + 64 := by omega
              go_wp2_with (first | (with_reducible refine stop_append ?_) | (with_reducible refine stop_copy ?_) | (with_reducible refine stop_make ?_) | (with_reducible refine stop_lookup ?_) | (with_reducible refine stop_update ?_) | (with_reducible refine stop_slice ?_) | (with_reducible refine stop_range ?_) | (with_reducible refine stop_next ?_) | (with_reducible refine stop_convert ⟨_, rfl⟩ ?_) | (with_reducible refine stop_convertB ⟨_, _, _, rfl⟩ ?_) | (with_reducible refine stop_eqSlice ⟨_, _, rfl⟩ ?_))
              refine (Hcur.out _ hcA).mono ?_
              rintro e wB ⟨rfl, hB⟩
              have cB := hcA.trans hB
              go_wp2_with (first | (with_reducible refine stop_append ?_) | (with_reducible refine stop_copy ?_) | (with_reducible refine stop_make ?_) | (with_reducible refine stop_lookup ?_) | (with_reducible refine stop_update ?_) | (with_reducible refine stop_slice ?_) | (with_reducible refine stop_range ?_) | (with_reducible refine stop_next ?_) | (with_reducible refine stop_convert ⟨_, rfl⟩ ?_) | (with_reducible refine stop_convertB ⟨_, _, _, rfl⟩ ?_) | (with_reducible refine stop_eqSlice ⟨_, _, rfl⟩ ?_))
              refine (Hfst.out _ cB).mono ?_
              rintro e wC ⟨rfl, hC⟩
              have cC := cB.trans hC
              go_wp2_with (first | (with_reducible refine stop_append ?_) | (with_reducible refine stop_copy ?_) | (with_reducible refine stop_make ?_) | (with_reducible refine stop_lookup ?_) | (with_reducible refine stop_update ?_) | (with_reducible refine stop_slice ?_) | (with_reducible refine stop_range ?_) | (with_reducible refine stop_next ?_) | (with_reducible refine stop_convert ⟨_, rfl⟩ ?_) | (with_reducible refine stop_convertB ⟨_, _, _, rfl⟩ ?_) | (with_reducible refine stop_eqSlice ⟨_, _, rfl⟩ ?_))
              have hmr : m < rows.length := by have := Hnn.out; omega
              refine (Hyes.out m hmr _ cC).mono ?_
              rintro e wD ⟨rfl, hD⟩
              have cD := cC.trans hD
              obtain ⟨y, hy, hyl⟩ := Hlaw.out m hmr (by omega) (by omega)
              obtain ⟨s1, s2⟩ := Hsb.out m (by have := Hnn.out; omega)
              obtain ⟨s3, s4⟩ := Hsb.out (m + 1) (by have := Hnn.out; omega)
              have s5 := Hnx.out m hmr
              have s6 := many_bound rows[m]
              have hmono : ¬ startF rows (m + 1) < startF rows m := by omega
              have Hf := Lib.hid (Hfind.out (startF rows m + n) (by omega))
              rw [hy] at Hf
              have hex : ∃ S1, S1 = startF rows (m + 1) := ⟨_, rfl⟩
              have Hyes1 := Lib.hid (fun (h1 : m + 1 < nn) W (hW : Chg No wA W) => Hyes.out (m + 1) (by have := Hnn.out; omega) W hW)
              rw [show f + ((m + 1 : Nat) : Int) = f + m + 1 by omega] at Hyes1
              have Hyl := Lib.hid hyl
              obtain ⟨y1, y2⟩ := y
              generalize startF rows m = S0 at *
              generalize startF rows (m + 1) = S1 at *
              clear s5 s6 hex hy hyl
              have hS0 : S0 ≤ 562949953421312 := by omega
              have hS1 : S1 ≤ 571746046443520 := by omega
              have hnb : n ≤ 1099511627776 := by omega
              have hnz : 0 ≤ n := by omega
              clear s2 s4
              by_cases h1 : m + 1 < nn
              · go_wp2_with (first | (with_reducible refine stop_append ?_) | (with_reducible refine stop_copy ?_) | (with_reducible refine stop_make ?_) | (with_reducible refine stop_lookup ?_) | (with_reducible refine stop_update ?_) | (with_reducible refine stop_slice ?_) | (with_reducible refine stop_range ?_) | (with_reducible refine stop_next ?_) | (with_reducible refine stop_convert ⟨_, rfl⟩ ?_) | (with_reducible refine stop_convertB ⟨_, _, _, rfl⟩ ?_) | (with_reducible refine stop_eqSlice ⟨_, _, rfl⟩ ?_))
                refine (Hyes1.out h1 _ cD).mono ?_
                rintro e wE ⟨rfl, hE⟩
                have cE := cD.trans hE
                go_wp2_with (first | (with_reducible refine stop_append ?_) | (with_reducible refine stop_copy ?_) | (with_reducible refine stop_make ?_) | (with_reducible refine stop_lookup ?_) | (with_reducible refine stop_update ?_) | (with_reducible refine stop_slice ?_) | (with_reducible refine stop_range ?_) | (with_reducible refine stop_next ?_) | (with_reducible refine stop_convert ⟨_, rfl⟩ ?_) | (with_reducible refine stop_convertB ⟨_, _, _, rfl⟩ ?_) | (with_reducible refine stop_eqSlice ⟨_, _, rfl⟩ ?_))
                refine (Hf.out _ cE).mono ?_
                rintro e wF ⟨he, hF⟩
                obtain rfl := he
                have cF := cE.trans hF
                have oq := alloc_obj wF (.cells #[.int .i64 y1, .int .i64 y2] 50)
                have hcq := (Chg.refl No wF).alloc (.cells #[.int .i64 y1, .int .i64 y2] 50)
                have q0 := cell_obj (i := 0) oq (u := .int .i64 y1) rfl
                have q1 := cell_obj (i := 1) oq (u := .int .i64 y2) rfl
                have cG := cF.trans hcq
                clear oq hcq
                by_cases h2 : n < S1 - S0
                · have e := Hyl.out (.inr h2)
                  simp only [Prod.mk.injEq] at e
                  obtain ⟨rfl, rfl⟩ := e
                  go_wp2_with (first | (with_reducible refine stop_append ?_) | (with_reducible refine stop_copy ?_) | (with_reducible refine stop_make ?_) | (with_reducible refine stop_lookup ?_) | (with_reducible refine stop_update ?_) | (with_reducible refine stop_slice ?_) | (with_reducible refine stop_range ?_) | (with_reducible refine stop_next ?_) | (with_reducible refine stop_convert ⟨_, rfl⟩ ?_) | (with_reducible refine stop_convertB ⟨_, _, _, rfl⟩ ?_) | (with_reducible refine stop_eqSlice ⟨_, _, rfl⟩ ?_))
                  go_roundw
                  case rel => exact ⟨m + 1, by omega, congrArg (Value.int .i64) (by omega), cG⟩
                  case measure => simp [intOf]; omega
                · go_wp2_with (first | (with_reducible refine stop_append ?_) | (with_reducible refine stop_copy ?_) | (with_reducible refine stop_make ?_) | (with_reducible refine stop_lookup ?_) | (with_reducible refine stop_update ?_) | (with_reducible refine stop_slice ?_) | (with_reducible refine stop_range ?_) | (with_reducible refine stop_next ?_) | (with_reducible refine stop_convert ⟨_, rfl⟩ ?_) | (with_reducible refine stop_convertB ⟨_, _, _, rfl⟩ ?_) | (with_reducible refine stop_eqSlice ⟨_, _, rfl⟩ ?_))
                  go_roundw
                  case rel => exact ⟨m + 1, by omega, congrArg (Value.int .i64) (by omega), cG⟩
                  case measure => simp [intOf]; omega
              · have e1 : f + (nn : Int) = f + m + 1 := by omega
                have Hnot1 := Lib.hid (fun W hW => Hnot.out W hW)
                rw [← Hnn.out, e1] at Hnot1
                have Hz := Lib.hid (show m + 1 = rows.length by have := Hnn.out; omega)
                clear e1
                go_wp2_with (first | (with_reducible refine stop_append ?_) | (with_reducible refine stop_copy ?_) | (with_reducible refine stop_make ?_) | (with_reducible refine stop_lookup ?_) | (with_reducible refine stop_update ?_) | (with_reducible refine stop_slice ?_) | (with_reducible refine stop_range ?_) | (with_reducible refine stop_next ?_) | (with_reducible refine stop_convert ⟨_, rfl⟩ ?_) | (with_reducible refine stop_convertB ⟨_, _, _, rfl⟩ ?_) | (with_reducible refine stop_eqSlice ⟨_, _, rfl⟩ ?_))
                refine (Hnot1.out _ cD).mono ?_
                rintro e wE ⟨rfl, hE⟩
                have cE := cD.trans hE
                go_wp2_with (first | (with_reducible refine stop_append ?_) | (with_reducible refine stop_copy ?_) | (with_reducible refine stop_make ?_) | (with_reducible refine stop_lookup ?_) | (with_reducible refine stop_update ?_) | (with_reducible refine stop_slice ?_) | (with_reducible refine stop_range ?_) | (with_reducible refine stop_next ?_) | (with_reducible refine stop_convert ⟨_, rfl⟩ ?_) | (with_reducible refine stop_convertB ⟨_, _, _, rfl⟩ ?_) | (with_reducible refine stop_eqSlice ⟨_, _, rfl⟩ ?_))
                refine (Hf.out _ cE).mono ?_
                rintro e wF ⟨he, hF⟩
                obtain rfl := he
                have e := Hyl.out (.inl Hz.out)
                simp only [Prod.mk.injEq] at e
                obtain ⟨rfl, rfl⟩ := e
                have cF := cE.trans hF
                have oq := alloc_obj wF (.cells #[.int .i64 (f + m), .int .i64 y2] 50)
                have hcq := (Chg.refl No wF).alloc (.cells #[.int .i64 (f + m), .int .i64 y2] 50)
                have q0 := cell_obj (i := 0) oq (u := .int .i64 (f + m)) rfl
                have q1 := cell_obj (i := 1) oq (u := .int .i64 y2) rfl
                have cG := cF.trans hcq
                clear oq hcq
                go_wp2_with (first | (with_reducible refine stop_append ?_) | (with_reducible refine stop_copy ?_) | (with_reducible refine stop_make ?_) | (with_reducible refine stop_lookup ?_) | (with_reducible refine stop_update ?_) | (with_reducible refine stop_slice ?_) | (with_reducible refine stop_range ?_) | (with_reducible refine stop_next ?_) | (with_reducible refine stop_convert ⟨_, rfl⟩ ?_) | (with_reducible refine stop_convertB ⟨_, _, _, rfl⟩ ?_) | (with_reducible refine stop_eqSlice ⟨_, _, rfl⟩ ?_))
                go_roundw
                case rel => exact ⟨m + 1, by omega, congrArg (Value.int .i64) (by omega), cG⟩
                case measure => simp [intOf]; omega
            · have hle : ¬ f + (m : Int) ≤ f + mm := by have := Hmm.out; omega
              go_wp2_with (first | (with_reducible refine stop_append ?_) | (with_reducible refine stop_copy ?_) | (with_reducible refine stop_make ?_) | (with_reducible refine stop_lookup ?_) | (with_reducible refine stop_update ?_) | (with_reducible refine stop_slice ?_) | (with_reducible refine stop_range ?_) | (with_reducible refine stop_next ?_) | (with_reducible refine stop_convert ⟨_, rfl⟩ ?_) | (with_reducible refine stop_convertB ⟨_, _, _, rfl⟩ ?_) | (with_reducible refine stop_eqSlice ⟨_, _, rfl⟩ ?_))
              refine (Hcur.out _ hcA).mono ?_
              rintro e wB ⟨rfl, hB⟩
              have cB := hcA.trans hB
              go_wp2_with (first | (with_reducible refine stop_append ?_) | (with_reducible refine stop_copy ?_) | (with_reducible refine stop_make ?_) | (with_reducible refine stop_lookup ?_) | (with_reducible refine stop_update ?_) | (with_reducible refine stop_slice ?_) | (with_reducible refine stop_range ?_) | (with_reducible refine stop_next ?_) | (with_reducible refine stop_convert ⟨_, rfl⟩ ?_) | (with_reducible refine stop_convertB ⟨_, _, _, rfl⟩ ?_) | (with_reducible refine stop_eqSlice ⟨_, _, rfl⟩ ?_))
              refine (Hal.out _).mono ?_
              rintro e wC ⟨rfl, hC⟩
              go_wp2_with (first | (with_reducible refine stop_append ?_) | (with_reducible refine stop_copy ?_) | (with_reducible refine stop_make ?_) | (with_reducible refine stop_lookup ?_) | (with_reducible refine stop_update ?_) | (with_reducible refine stop_slice ?_) | (with_reducible refine stop_range ?_) | (with_reducible refine stop_next ?_) | (with_reducible refine stop_convert ⟨_, rfl⟩ ?_) | (with_reducible refine stop_convertB ⟨_, _, _, rfl⟩ ?_) | (with_reducible refine stop_eqSlice ⟨_, _, rfl⟩ ?_))
              go_ret
              exact ⟨rfl, (((hcw2.old hcr (fun i hi => by simp only [Ge] at hi; omega)).trans cB)).trans hC⟩
end Go.Proofs.Ytbjpoamnglfjeaa

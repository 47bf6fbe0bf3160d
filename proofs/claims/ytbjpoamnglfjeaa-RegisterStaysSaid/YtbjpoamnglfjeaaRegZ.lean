/- Walk of the law RegisterStays. -/
import Derived.Test.YtbjpoamnglfjeaaRegY
import Derived.Test.YtbjpoamnglfjeaaRegW
set_option linter.unusedVariables false
set_option linter.unusedSimpArgs false
namespace Go.Proofs.Ytbjpoamnglfjeaa
open Go.RowKit Cb

set_option maxRecDepth 100000 in
set_option maxHeartbeats 8000000 in
theorem rstays_any (t : Int) (vq vs v : Value) (q : List Int) (s : List (List Int)) (l : List Op) (w : World) (hq : Sl No w vq q) (hs : Sl No w vs s) (h : Sl No w v l) (hl : l.length * 80 ≤ 140737488355328) (hc : CfgI q s) (ho : ∀ o ∈ l, OpI o) :
    Calls Try.prog 9 #[cfgV t vq vs, v] w fun e w' => e = .returned (.bool true) ∧ Chg No w w' := by
  have Hfew := Lib.hid (fun W (hW : Chg No w W) => fewr_any No No No t vq vs v q s l W (hq.keepNo hW) (hs.keepNo hW) (h.keepNo hW) (by omega) hc ho)
  have Hno := Lib.hid (fun (hr : rightC t q s = false) W (hW : Chg No w W) => new_no No No t vq vs q s W (hq.keepNo hW) (hs.keepNo hW) hc.1 (by have := hc.2.1; omega) hc.2.2 hr)
  have Hyes := Lib.hid (fun (hr : rightC t q s = true) W (hW : Chg No w W) => new_yes t vq vs q s W (hq.keepNo hW) (hs.keepNo hW) hr)
  have Hal := Lib.hid (fun W => ralive_any W)
  obtain ⟨Aq, cq, rfl⟩ := hq.slice
  obtain ⟨As, cs, rfl⟩ := hs.slice
  obtain ⟨A, c, rfl⟩ := h.slice
  have Hs := Lib.hid h
  have Ho := Lib.hid ho
  unfold cfgV at *
  have o1 := alloc_obj w (.cells #[.int .i64 t, .slice Aq q.length cq, .slice As s.length cs] 63)
  have hc0 := (Chg.refl No w).alloc (.cells #[.int .i64 t, .slice Aq q.length cq, .slice As s.length cs] 63)
  have a0 := cell_obj (i := 0) o1 rfl
  have a1 := cell_obj (i := 1) o1 rfl
  have a2 := cell_obj (i := 2) o1 rfl
  clear hq hs h hc ho
  go_enter Try.func9, Try.ntmps9
  go_wp2_with (first | (with_reducible refine stop_append ?_) | (with_reducible refine stop_copy ?_) | (with_reducible refine stop_make ?_) | (with_reducible refine stop_lookup ?_) | (with_reducible refine stop_update ?_) | (with_reducible refine stop_slice ?_) | (with_reducible refine stop_range ?_) | (with_reducible refine stop_next ?_) | (with_reducible refine stop_convert ⟨_, rfl⟩ ?_) | (with_reducible refine stop_convertB ⟨_, _, _, rfl⟩ ?_) | (with_reducible refine stop_eqSlice ⟨_, _, rfl⟩ ?_))
  generalize w.alloc (.cells #[.int .i64 t, .slice Aq q.length cq, .slice As s.length cs] 63) = w0 at *
  rcases hr : rightC t q s with _ | _
  · refine (Hno.out hr w0 hc0).mono ?_
    rintro e w1 ⟨rfl, hc1⟩
    go_wp2_with (first | (with_reducible refine stop_append ?_) | (with_reducible refine stop_copy ?_) | (with_reducible refine stop_make ?_) | (with_reducible refine stop_lookup ?_) | (with_reducible refine stop_update ?_) | (with_reducible refine stop_slice ?_) | (with_reducible refine stop_range ?_) | (with_reducible refine stop_next ?_) | (with_reducible refine stop_convert ⟨_, rfl⟩ ?_) | (with_reducible refine stop_convertB ⟨_, _, _, rfl⟩ ?_) | (with_reducible refine stop_eqSlice ⟨_, _, rfl⟩ ?_))
    refine (Hal.out _).mono ?_
    rintro e w2 ⟨rfl, hc2⟩
    go_wp2_with (first | (with_reducible refine stop_append ?_) | (with_reducible refine stop_copy ?_) | (with_reducible refine stop_make ?_) | (with_reducible refine stop_lookup ?_) | (with_reducible refine stop_update ?_) | (with_reducible refine stop_slice ?_) | (with_reducible refine stop_range ?_) | (with_reducible refine stop_next ?_) | (with_reducible refine stop_convert ⟨_, rfl⟩ ?_) | (with_reducible refine stop_convertB ⟨_, _, _, rfl⟩ ?_) | (with_reducible refine stop_eqSlice ⟨_, _, rfl⟩ ?_))
    go_ret
    exact ⟨rfl, (hc0.trans hc1).trans hc2⟩
  · have Hri := Lib.hid (new_reg hr)
    refine (Hyes.out hr w0 hc0).mono ?_
    rintro e w1 ⟨p, rfl, hc1, hreg⟩
    have Hreg := Lib.hid hreg
    clear hreg hr Hno Hyes
    have hcw1 := hc0.trans hc1
    replace a0 := hc1.cell a0 (not_no _)
    replace a1 := hc1.cell a1 (not_no _)
    replace a2 := hc1.cell a2 (not_no _)
    go_wp2_with (first | (with_reducible refine stop_append ?_) | (with_reducible refine stop_copy ?_) | (with_reducible refine stop_make ?_) | (with_reducible refine stop_lookup ?_) | (with_reducible refine stop_update ?_) | (with_reducible refine stop_slice ?_) | (with_reducible refine stop_range ?_) | (with_reducible refine stop_next ?_) | (with_reducible refine stop_convert ⟨_, rfl⟩ ?_) | (with_reducible refine stop_convertB ⟨_, _, _, rfl⟩ ?_) | (with_reducible refine stop_eqSlice ⟨_, _, rfl⟩ ?_))
    refine (Hfew.out _ hcw1).mono ?_
    rintro e w2 ⟨⟨b, rfl⟩, hc2⟩
    have hcw2 := hcw1.trans hc2
    rcases b with _ | _
    · go_wp2_with (first | (with_reducible refine stop_append ?_) | (with_reducible refine stop_copy ?_) | (with_reducible refine stop_make ?_) | (with_reducible refine stop_lookup ?_) | (with_reducible refine stop_update ?_) | (with_reducible refine stop_slice ?_) | (with_reducible refine stop_range ?_) | (with_reducible refine stop_next ?_) | (with_reducible refine stop_convert ⟨_, rfl⟩ ?_) | (with_reducible refine stop_convertB ⟨_, _, _, rfl⟩ ?_) | (with_reducible refine stop_eqSlice ⟨_, _, rfl⟩ ?_))
      refine (Hal.out _).mono ?_
      rintro e w3 ⟨rfl, hc3⟩
      go_wp2_with (first | (with_reducible refine stop_append ?_) | (with_reducible refine stop_copy ?_) | (with_reducible refine stop_make ?_) | (with_reducible refine stop_lookup ?_) | (with_reducible refine stop_update ?_) | (with_reducible refine stop_slice ?_) | (with_reducible refine stop_range ?_) | (with_reducible refine stop_next ?_) | (with_reducible refine stop_convert ⟨_, rfl⟩ ?_) | (with_reducible refine stop_convertB ⟨_, _, _, rfl⟩ ?_) | (with_reducible refine stop_eqSlice ⟨_, _, rfl⟩ ?_))
      go_ret
      exact ⟨rfl, hcw2.trans hc3⟩
    · clear a0 a1 a2 o1 Hfew
      obtain ⟨B, hB⟩ : ∃ B, B = w0.heap.size := ⟨_, rfl⟩
      have Hreg2 := Lib.hid (Hreg.out.keepNo hc2)
      rw [← hB] at Hreg2
      have hwB : w.heap.size ≤ B := by have := hc0.size; omega
      have HsB := Lib.hid (fun W (hW : Chg (Ge B) w2 W) => ((Sl.up (Hs.out.keepNo hc0) (Nat.le_of_eq hB.symm)).keepNo (hc1.trans hc2)).keep hW)
      clear Hreg Hs hc1 hc0 hB
      go_wp2_with (first | (with_reducible refine stop_append ?_) | (with_reducible refine stop_copy ?_) | (with_reducible refine stop_make ?_) | (with_reducible refine stop_lookup ?_) | (with_reducible refine stop_update ?_) | (with_reducible refine stop_slice ?_) | (with_reducible refine stop_range ?_) | (with_reducible refine stop_next ?_) | (with_reducible refine stop_convert ⟨_, rfl⟩ ?_) | (with_reducible refine stop_convertB ⟨_, _, _, rfl⟩ ?_) | (with_reducible refine stop_eqSlice ⟨_, _, rfl⟩ ?_))
      go_loopw [8, 9, 10, 11, 12, 13, 14, 35] (fun _ _ _ _ _ _ _ v35 wr => ∃ (k : Nat) (rows : List Rw), k ≤ l.length ∧ v35 = .int .i64 k ∧ Chg (Ge B) w2 wr ∧ RegS wr B p rows ∧ RegI rows) (fun _ _ _ _ _ _ _ v35 _ => l.length - (intOf v35).toNat)
      case atStart => exact ⟨0, _, by omega, rfl, Chg.refl _ _, Hreg2.out, Hri.out⟩
      case round =>
        obtain ⟨k, rows, hk, rfl, hcr, hreg, hri⟩ := hrel
        by_cases hlt : k < l.length
        · obtain ⟨b4, o4, vq4, vs4, vt4, rfl, -, hbl, sq, ss, st, k0, k1, k2, k3⟩ := op_get (HsB.out wr hcr) k hlt
          obtain ⟨hcx, hlx⟩ := Ho.out _ (List.getElem_mem hlt)
          generalize l[k] = x at *
          obtain ⟨⟨xt, xq, xs⟩, xl⟩ := x
          simp only at k0 k1 k2 k3 sq ss st hcx hlx
          obtain ⟨hi0, hi1, hi2⟩ := hri.1
          obtain ⟨m, hm⟩ : ∃ m, m = rows.length - 1 := ⟨_, rfl⟩
          have hml : m < rows.length := by omega
          have hfb := first_bound hri.1
          have hfir := Lib.hid (install_reg xt xq xs hri hlx)
          have hgrow := Lib.hid (install_grows rows xt xq xs xl hi0)
          have hlast := Lib.hid (install_last rows xt xq xs xl hi0 m hml)
          have hover : ∀ i (h : i < (installF rows xt xq xs xl).2.length), ((installF rows xt xq xs xl).2[i]).2.2.2.2 = decide (i + 1 < (installF rows xt xq xs xl).2.length) := (install_reg xt xq xs hri hlx).1.2
          have hagain := Lib.hid (fun h => install_again (rows := rows) (t := xt) (q := xq) (s := xs) (l := xl) hi0 h)
          have Hov := Lib.hid hover
          have Hri := Lib.hid hri
          clear hover hri hi2
          have Hxq := Lib.hid sq
          have Hxs := Lib.hid ss
          have Hxt := Lib.hid st
          obtain ⟨Bq, dq, rfl⟩ := sq.slice
          obtain ⟨Bs, ds, rfl⟩ := ss.slice
          obtain ⟨Bt, dt, rfl⟩ := st.slice
          have Hcur := Lib.hid (fun W (hW : Chg No wr W) => rcurrent_any B p rows W (hreg.keepNo hW) Hri.out.1)
          have Hrow := Lib.hid (fun W (hW : Chg No wr W) => rrow_yes B p rows W (hreg.keepNo hW) Hri.out.1 m hml)
          rw [← hm] at Hcur hfb
          have Hm := Lib.hid hm
          clear hm
          have Hreg3 := Lib.hid hreg
          have o8 := alloc_obj wr (.cells #[.int .i64 xt, .slice Bq xq.length dq, .slice Bs xs.length ds, .slice Bt xl.length dt] 71)
          have hc8 := (Chg.refl No wr).alloc (.cells #[.int .i64 xt, .slice Bq xq.length dq, .slice Bs xs.length ds, .slice Bt xl.length dt] 71)
          have c0 := cell_obj (i := 0) o8 rfl
          have c1 := cell_obj (i := 1) o8 rfl
          have c2 := cell_obj (i := 2) o8 rfl
          have c3 := cell_obj (i := 3) o8 rfl
          have hz8 : (wr.alloc (.cells #[.int .i64 xt, .slice Bq xq.length dq, .slice Bs xs.length ds, .slice Bt xl.length dt] 71)).heap.size = wr.heap.size + 1 := by simp
          clear sq ss st hreg
          obtain ⟨hcfg, hcfgr, -⟩ := Hri.out.1.2.2 m hml
          have hsm := right_small hcfgr
          replace hcfg : rows[m].1 = firstR rows + m := hcfg
          generalize firstR rows = f at *
          generalize hcd : installF rows xt xq xs xl = cr at *
          have Hcd := Lib.hid hcd
          obtain ⟨code, rows2⟩ := cr
          simp only at hfir hgrow hlast hagain Hov
          clear hcd
          go_wp2_with (first | (with_reducible refine stop_append ?_) | (with_reducible refine stop_copy ?_) | (with_reducible refine stop_make ?_) | (with_reducible refine stop_lookup ?_) | (with_reducible refine stop_update ?_) | (with_reducible refine stop_slice ?_) | (with_reducible refine stop_range ?_) | (with_reducible refine stop_next ?_) | (with_reducible refine stop_convert ⟨_, rfl⟩ ?_) | (with_reducible refine stop_convertB ⟨_, _, _, rfl⟩ ?_) | (with_reducible refine stop_eqSlice ⟨_, _, rfl⟩ ?_))
          obtain ⟨b8, hb8⟩ : ∃ b, b = wr.heap.size := ⟨_, rfl⟩
          generalize wr.alloc (.cells #[.int .i64 xt, .slice Bq xq.length dq, .slice Bs xs.length ds, .slice Bt xl.length dt] 71) = wA at *
          rw [← hb8] at c0 c1 c2 c3 o8 ⊢
          have Hb8 := Lib.hid hb8
          clear hb8 k0 k1 k2 k3 hbl
          refine (Hcur.out _ hc8).mono ?_
          rintro e w3 ⟨rfl, h3⟩
          have c3r := hc8.trans h3
          go_wp2_with (first | (with_reducible refine stop_append ?_) | (with_reducible refine stop_copy ?_) | (with_reducible refine stop_make ?_) | (with_reducible refine stop_lookup ?_) | (with_reducible refine stop_update ?_) | (with_reducible refine stop_slice ?_) | (with_reducible refine stop_range ?_) | (with_reducible refine stop_next ?_) | (with_reducible refine stop_convert ⟨_, rfl⟩ ?_) | (with_reducible refine stop_convertB ⟨_, _, _, rfl⟩ ?_) | (with_reducible refine stop_eqSlice ⟨_, _, rfl⟩ ?_))
          refine (Hrow.out _ c3r).mono ?_
          rintro e w4 ⟨vq1, vs1, vt1, rfl, h4, sq1, ss1, st1⟩
          have c4r := c3r.trans h4
          obtain ⟨Cq, eq, rfl⟩ := sq1.slice
          obtain ⟨Cs, es, rfl⟩ := ss1.slice
          obtain ⟨Ct, et, rfl⟩ := st1.slice
          obtain ⟨ov1, hov1⟩ : ∃ o, o = rows[m].2.2.2.2 := ⟨_, rfl⟩
          obtain ⟨n3, hn3⟩ : ∃ o, o = rows[m].2.2.2.1.length := ⟨_, rfl⟩
          rw [← hov1, ← hn3]
          clear hov1 hn3 st1
          obtain ⟨Q, hQ⟩ : ∃ o, o = rows[m].2.1 := ⟨_, rfl⟩
          obtain ⟨Z, hZ⟩ : ∃ o, o = rows[m].2.2.1 := ⟨_, rfl⟩
          rw [← hQ] at sq1 hsm hlast ⊢
          rw [← hZ] at ss1 hsm hlast ⊢
          rw [hcfg] at hlast
          clear hQ hZ hcfg hcfgr Hrow Hcur
          have o10 := alloc_obj w4 (.cells #[.int .i64 (f + m), .slice Cq Q.length eq, .slice Cs Z.length es, .slice Ct n3 et, .bool ov1] 88)
          have hc10 := (Chg.refl No w4).alloc (.cells #[.int .i64 (f + m), .slice Cq Q.length eq, .slice Cs Z.length es, .slice Ct n3 et, .bool ov1] 88)
          have hzw4 : w4.heap.size < (w4.alloc (.cells #[.int .i64 (f + m), .slice Cq Q.length eq, .slice Cs Z.length es, .slice Ct n3 et, .bool ov1] 88)).heap.size := by simp
          have Hq1 := Lib.hid (sq1.keepNo hc10)
          have Hs1 := Lib.hid (ss1.keepNo hc10)
          have o85 := (c3r.trans (h4.trans hc10))
          replace o8 := (h3.trans (h4.trans hc10)).obj o8 (not_no _)
          have c5r := c4r.trans hc10
          clear sq1 ss1
          go_wp2_with (first | (with_reducible refine stop_append ?_) | (with_reducible refine stop_copy ?_) | (with_reducible refine stop_make ?_) | (with_reducible refine stop_lookup ?_) | (with_reducible refine stop_update ?_) | (with_reducible refine stop_slice ?_) | (with_reducible refine stop_range ?_) | (with_reducible refine stop_next ?_) | (with_reducible refine stop_convert ⟨_, rfl⟩ ?_) | (with_reducible refine stop_convertB ⟨_, _, _, rfl⟩ ?_) | (with_reducible refine stop_eqSlice ⟨_, _, rfl⟩ ?_))
          obtain ⟨b10, hb10⟩ : ∃ b, b = w4.heap.size := ⟨_, rfl⟩
          generalize w4.alloc (.cells #[.int .i64 (f + m), .slice Cq Q.length eq, .slice Cs Z.length es, .slice Ct n3 et, .bool ov1] 88) = w5 at *
          rw [← hb10] at o10 hzw4 ⊢
          have Hb10 := Lib.hid hb10
          clear hb10 c0 c1 c2 c3
          have Hmine := Lib.hid (fun W (hW : Chg No wr W) => mine14_any (.slice Bt xl.length dt) xl W (Hxt.out.no.keepNo hW) (by have := hlx.1; omega))
          have Hinst := Lib.hid (fun W vm (hW : Chg No wr W) (hm : Sl No W vm xl) => install_any B p rows xt (.slice Bq xq.length dq) (.slice Bs xs.length ds) vm xq xs xl W (Hreg3.out.keepNo hW) Hri.out.1 (Hxq.out.keepNo hW) (Hxs.out.keepNo hW) hm hcx hlx)
          rw [Hcd.out] at Hinst
          unfold cfgV at Hinst
          simp only at Hinst
          have HS := Lib.hid (show ∀ W : World, W.heap[b8]? = some (.cells #[.int .i64 xt, .slice Bq xq.length dq, .slice Bs xs.length ds, .slice Bt xl.length dt] 71) → (fun W => W.cell? ⟨b8, 0, none⟩ = some (.int .i64 xt) ∧ W.cell? ⟨b8, 1, none⟩ = some (.slice Bq xq.length dq) ∧ W.cell? ⟨b8, 2, none⟩ = some (.slice Bs xs.length ds) ∧ W.cell? ⟨b8, 3, none⟩ = some (.slice Bt xl.length dt)) W from fun W hW => ⟨cell_obj (i := 0) hW rfl, cell_obj (i := 1) hW rfl, cell_obj (i := 2) hW rfl, cell_obj (i := 3) hW rfl⟩)
          have cd := (Chg.refl No w5).drew
          refine rt_start (fun W => W.cell? ⟨b8, 0, none⟩ = some (.int .i64 xt) ∧ W.cell? ⟨b8, 1, none⟩ = some (.slice Bq xq.length dq) ∧ W.cell? ⟨b8, 2, none⟩ = some (.slice Bs xs.length ds) ∧ W.cell? ⟨b8, 3, none⟩ = some (.slice Bt xl.length dt)) (by kernel_rfl) ?_
          ((refine rt_yes (i := 0) (oi := { dst := some 47, op := Go.Op.move (Go.Operand.tmp 5), type := 65, pos := "law.go:126", after := #[], guard := none }) (v := ?_) rfl (by kernel_rfl) (by kernel_rfl) (by kernel_rfl) (fun _ _ _ h => h) rfl ?_ ?_); rotate_left; focus (intro W hW; (try dsimp only at hW); go_split_ands; go_simp; (try (simp (disch := omega) only [IntWalk.i64_in]; (try go_simp))); (try (split; (next => omega); (try go_simp))); try rfl; done))
          try simp only [Act.put, List.setIfInBounds_toArray, List.set_cons_zero, List.set_cons_succ]
          ((refine rt_yes (i := 1) (oi := { dst := some 48, op := Go.Op.fieldAddr 71 (Go.Operand.tmp 8) 0, type := 0, pos := "law.go:126", after := #[], guard := none }) (v := ?_) rfl (by kernel_rfl) (by kernel_rfl) (by kernel_rfl) (fun _ _ _ h => h) rfl ?_ ?_); rotate_left; focus (intro W hW; (try dsimp only at hW); go_split_ands; go_simp; (try (simp (disch := omega) only [IntWalk.i64_in]; (try go_simp))); (try (split; (next => omega); (try go_simp))); try rfl; done))
          try simp only [Act.put, List.setIfInBounds_toArray, List.set_cons_zero, List.set_cons_succ]
          ((refine rt_yes (i := 2) (oi := { dst := some 49, op := Go.Op.load 63 (Go.Operand.tmp 48), type := 63, pos := "law.go:126", after := #[{ on := 1, ground := Go.Ground.data }], guard := none }) (v := ?_) rfl (by kernel_rfl) (by kernel_rfl) (by kernel_rfl) (fun _ _ _ h => h) rfl ?_ ?_); rotate_left; focus (intro W hW; (try dsimp only at hW); go_split_ands; go_simp; (try (simp (disch := omega) only [IntWalk.i64_in]; (try go_simp))); (try (split; (next => omega); (try go_simp))); try rfl; done))
          try simp only [Act.put, List.setIfInBounds_toArray, List.set_cons_zero, List.set_cons_succ]
          ((refine rt_yes (i := 3) (oi := { dst := some 50, op := Go.Op.fieldAddr 71 (Go.Operand.tmp 8) 1, type := 0, pos := "law.go:126", after := #[], guard := none }) (v := ?_) rfl (by kernel_rfl) (by kernel_rfl) (by kernel_rfl) (fun _ _ _ h => h) rfl ?_ ?_); rotate_left; focus (intro W hW; (try dsimp only at hW); go_split_ands; go_simp; (try (simp (disch := omega) only [IntWalk.i64_in]; (try go_simp))); (try (split; (next => omega); (try go_simp))); try rfl; done))
          try simp only [Act.put, List.setIfInBounds_toArray, List.set_cons_zero, List.set_cons_succ]
          ((refine rt_yes (i := 4) (oi := { dst := some 51, op := Go.Op.load 22 (Go.Operand.tmp 50), type := 22, pos := "law.go:126", after := #[{ on := 3, ground := Go.Ground.data }], guard := none }) (v := ?_) rfl (by kernel_rfl) (by kernel_rfl) (by kernel_rfl) (fun _ _ _ h => h) rfl ?_ ?_); rotate_left; focus (intro W hW; (try dsimp only at hW); go_split_ands; go_simp; (try (simp (disch := omega) only [IntWalk.i64_in]; (try go_simp))); (try (split; (next => omega); (try go_simp))); try rfl; done))
          try simp only [Act.put, List.setIfInBounds_toArray, List.set_cons_zero, List.set_cons_succ]
          -- ready: [5]
          refine rt_k (fun W => W.cell? ⟨b8, 0, none⟩ = some (.int .i64 xt) ∧ W.cell? ⟨b8, 1, none⟩ = some (.slice Bq xq.length dq) ∧ W.cell? ⟨b8, 2, none⟩ = some (.slice Bs xs.length ds) ∧ W.cell? ⟨b8, 3, none⟩ = some (.slice Bt xl.length dt)) (i := 5) (oi := { dst := some 52, op := Go.Op.call { callee := Go.Callee.value (Go.Operand.func 34), args := #[Go.Operand.tmp 51], argTypes := #[22] }, type := 28, pos := "law.go:126", after := #[{ on := 4, ground := Go.Ground.data }], guard := none }) (by kernel_rfl) (HS.out _ (cd.obj o8 (not_no _))) (fun _ h => h) rfl (by rfl) (fun K hK => ?_)
          go_simp
          refine (Hmine.out _ (c5r.trans cd)).mono ?_
          rintro e w6 ⟨vm, rfl, h6, sm⟩
          have cd6 := cd.trans h6
          refine hK _ _ ?_
          clear hK K
          try simp only [Act.put, List.setIfInBounds_toArray, List.set_cons_zero, List.set_cons_succ]
          -- ready: [6]
          refine rt_k (fun W => W.cell? ⟨b8, 0, none⟩ = some (.int .i64 xt) ∧ W.cell? ⟨b8, 1, none⟩ = some (.slice Bq xq.length dq) ∧ W.cell? ⟨b8, 2, none⟩ = some (.slice Bs xs.length ds) ∧ W.cell? ⟨b8, 3, none⟩ = some (.slice Bt xl.length dt)) (i := 6) (oi := { dst := some 53, op := Go.Op.call { callee := Go.Callee.value (Go.Operand.func 33), args := #[Go.Operand.tmp 47, Go.Operand.tmp 49, Go.Operand.tmp 52], argTypes := #[65, 68, 28] }, type := 54, pos := "law.go:126", after := #[{ on := 0, ground := Go.Ground.data }, { on := 2, ground := Go.Ground.data }, { on := 5, ground := Go.Ground.data }, { on := 5, ground := Go.Ground.chain }], guard := none }) (by kernel_rfl) (HS.out _ (cd6.obj o8 (not_no _))) (fun _ h => h) rfl (by rfl) (fun K hK => ?_)
          go_simp
          refine (Hinst.out _ _ (c5r.trans cd6) sm).mono ?_
          rintro e w7 ⟨rfl, hin, hr7⟩
          have hr6 := Hreg3.out.keepNo (c5r.trans cd6)
          have off8 : Off w6 p b8 := Off.new Hreg3.out (c5r.trans cd6) (Nat.le_of_eq Hb8.out.symm) (lt_of_heap (cd6.obj o8 (not_no _)))
          have off10 : Off w6 p b10 := Off.new Hreg3.out (c5r.trans cd6) (by have := Hb10.out; have := c4r.size; omega) (lt_of_heap (cd6.obj o10 (not_no _)))
          have o87 := off8.obj hin (cd6.obj o8 (not_no _))
          have o107 := off10.obj hin (cd6.obj o10 (not_no _))
          have hlt7 : Chg (Lt w3.heap.size) w6 w7 := hin.1.weak (fun k _ hk => by
            have := regF_lt Hreg3.out (regF_no Hreg3.out (c5r.trans cd6) hk)
            have := c3r.size
            simp only [Lt]; omega)
          have Hq7 := Lib.hid ((Hq1.out.keepNo cd6).keep hlt7)
          have Hs7 := Lib.hid ((Hs1.out.keepNo cd6).keep hlt7)
          have c7rr : Chg (Ge B) wr w7 := (c5r.trans cd6).of_no.trans (hin.ge hr6)
          have c7r : Chg (Ge B) w2 w7 := hcr.trans c7rr
          refine hK _ _ ?_
          clear hK K
          try simp only [Act.put, List.setIfInBounds_toArray, List.set_cons_zero, List.set_cons_succ]
          -- ready: [7]
          refine rt_k (fun W => W.cell? ⟨b8, 0, none⟩ = some (.int .i64 xt) ∧ W.cell? ⟨b8, 1, none⟩ = some (.slice Bq xq.length dq) ∧ W.cell? ⟨b8, 2, none⟩ = some (.slice Bs xs.length ds) ∧ W.cell? ⟨b8, 3, none⟩ = some (.slice Bt xl.length dt)) (i := 7) (oi := { dst := some 12, op := Go.Op.assign (Go.Operand.tmp 53), type := 54, pos := "law.go:126", after := #[{ on := 6, ground := Go.Ground.data }, { on := 6, ground := Go.Ground.chain }, { on := 0, ground := Go.Ground.phase }, { on := 1, ground := Go.Ground.phase }, { on := 2, ground := Go.Ground.phase }, { on := 3, ground := Go.Ground.phase }, { on := 4, ground := Go.Ground.phase }, { on := 5, ground := Go.Ground.phase }, { on := 6, ground := Go.Ground.phase }], guard := none }) (by kernel_rfl) (HS.out _ o87) (fun _ h => h) rfl (by rfl) (fun K hK => ?_)
          go_simp
          refine hK _ _ ?_
          clear hK K
          try simp only [Act.put, List.setIfInBounds_toArray, List.set_cons_zero, List.set_cons_succ]
          -- ready: []
          refine rt_done (by kernel_rfl)  ?_
          have off87 := off8.inst hin
          have Hr7 := Lib.hid hr7
          clear o8 o10 Hq1 Hs1 hlt7 hin hr6 off8 off10 hr7 sm Hinst cd cd6
          obtain ⟨hfir1, hfir2⟩ := hfir.out
          have hlast' := hlast.out
          obtain ⟨hm2, hl1, hl2, hl3⟩ := hlast'
          have Hrow2 := Lib.hid (rrow_yes B p rows2 w7 Hr7.out hfir1.1 m hm2)
          rw [hfir2, hl2, hl3] at Hrow2
          go_wp2_with (first | (with_reducible refine stop_append ?_) | (with_reducible refine stop_copy ?_) | (with_reducible refine stop_make ?_) | (with_reducible refine stop_lookup ?_) | (with_reducible refine stop_update ?_) | (with_reducible refine stop_slice ?_) | (with_reducible refine stop_range ?_) | (with_reducible refine stop_next ?_) | (with_reducible refine stop_convert ⟨_, rfl⟩ ?_) | (with_reducible refine stop_convertB ⟨_, _, _, rfl⟩ ?_) | (with_reducible refine stop_eqSlice ⟨_, _, rfl⟩ ?_))
          have Hov2 := Lib.hid (Hov.out m hm2)
          obtain ⟨ov2, hov2⟩ : ∃ o, o = rows2[m].2.2.2.2 := ⟨_, rfl⟩
          rw [← hov2] at Hrow2 Hov2
          clear hov2 hl1 hl2 hl3 hlast
          refine Hrow2.out.mono ?_
          rintro e wB ⟨vq2, vs2, vt2, rfl, hB4, sq2, ss2, st2⟩
          obtain ⟨Dq, fq, rfl⟩ := sq2.slice
          obtain ⟨Ds, fs, rfl⟩ := ss2.slice
          obtain ⟨Dt, ft, rfl⟩ := st2.slice
          obtain ⟨n4, hn4⟩ : ∃ o, o = rows2[m].2.2.2.1.length := ⟨_, rfl⟩
          rw [← hn4]
          clear hn4 st2
          have o13 := alloc_obj wB (.cells #[.int .i64 (f + m), .slice Dq Q.length fq, .slice Ds Z.length fs, .slice Dt n4 ft, .bool ov2] 88)
          have hc13 := (Chg.refl No wB).alloc (.cells #[.int .i64 (f + m), .slice Dq Q.length fq, .slice Ds Z.length fs, .slice Dt n4 ft, .bool ov2] 88)
          have h7C := hB4.trans hc13
          have Hsame := Lib.hid (fun W (hW : Chg No (wB.alloc (.cells #[.int .i64 (f + m), .slice Dq Q.length fq, .slice Ds Z.length fs, .slice Dt n4 ft, .bool ov2] 88)) W) => tsame_any (Lt w3.heap.size) (Lt w3.heap.size) (Lt w7.heap.size) (Lt w7.heap.size) (f + m) (f + m) (.slice Cq Q.length eq) (.slice Cs Z.length es) (.slice Dq Q.length fq) (.slice Ds Z.length fs) Q Q Z Z W (Hq7.out.keepNo (h7C.trans hW)) (Hs7.out.keepNo (h7C.trans hW)) ((sq2.keepNo hc13).keepNo hW) ((ss2.keepNo hc13).keepNo hW)
            (by have := hsm.1; omega) (by have := hsm.2.1; omega) (fun x hx => by have := hsm.2.2 x hx; omega) (by have := hsm.1; omega) (by have := hsm.2.1; omega) (fun x hx => by have := hsm.2.2 x hx; omega))
          rw [show sameC (f + m) Q Z (f + m) Q Z = true by simp [sameC]] at Hsame
          unfold cfgV at Hsame
          replace o107 := h7C.obj o107 (not_no _)
          replace o87 := h7C.obj o87 (not_no _)
          have Hr8 := Lib.hid (Hr7.out.keepNo h7C)
          have c8r := c7r.trans h7C.of_no
          have off88 := off87.no Hr7.out h7C
          clear sq2 ss2 hc13 Hrow2 off87
          have x0 := cell_obj (i := 0) o107 rfl
          have x1 := cell_obj (i := 1) o107 rfl
          have x2 := cell_obj (i := 2) o107 rfl
          have y0 := cell_obj (i := 0) o13 rfl
          have y1 := cell_obj (i := 1) o13 rfl
          have y2 := cell_obj (i := 2) o13 rfl
          have y4 := cell_obj (i := 4) o13 rfl
          have Hcur2 := Lib.hid (fun W (hW : Chg No (wB.alloc (.cells #[.int .i64 (f + m), .slice Dq Q.length fq, .slice Ds Z.length fs, .slice Dt n4 ft, .bool ov2] 88)) W) => rcurrent_any B p rows2 W (Hr8.out.keepNo hW) hfir1.1)
          rw [hfir2] at Hcur2
          go_wp2_with (first | (with_reducible refine stop_append ?_) | (with_reducible refine stop_copy ?_) | (with_reducible refine stop_make ?_) | (with_reducible refine stop_lookup ?_) | (with_reducible refine stop_update ?_) | (with_reducible refine stop_slice ?_) | (with_reducible refine stop_range ?_) | (with_reducible refine stop_next ?_) | (with_reducible refine stop_convert ⟨_, rfl⟩ ?_) | (with_reducible refine stop_convertB ⟨_, _, _, rfl⟩ ?_) | (with_reducible refine stop_eqSlice ⟨_, _, rfl⟩ ?_))
          generalize wB.alloc (.cells #[.int .i64 (f + m), .slice Dq Q.length fq, .slice Ds Z.length fs, .slice Dt n4 ft, .bool ov2] 88) = wC at *
          refine (Hsame.out _ (Chg.refl _ _)).mono ?_
          rintro e wD ⟨rfl, hD⟩
          replace y4 := hD.cell y4 (not_no _)
          go_wp2_with (first | (with_reducible refine stop_append ?_) | (with_reducible refine stop_copy ?_) | (with_reducible refine stop_make ?_) | (with_reducible refine stop_lookup ?_) | (with_reducible refine stop_update ?_) | (with_reducible refine stop_slice ?_) | (with_reducible refine stop_range ?_) | (with_reducible refine stop_next ?_) | (with_reducible refine stop_convert ⟨_, rfl⟩ ?_) | (with_reducible refine stop_convertB ⟨_, _, _, rfl⟩ ?_) | (with_reducible refine stop_eqSlice ⟨_, _, rfl⟩ ?_))
          refine (Hcur2.out _ hD).mono ?_
          rintro e wE ⟨rfl, hE⟩
          replace y4 := hE.cell y4 (not_no _)
          have hCE := hD.trans hE
          clear x0 x1 x2 y0 y1 y2 Hsame
          have crC : Chg (Ge B) wr wC := c7rr.trans h7C.of_no
          have HxqC := Lib.hid (fun W (hW : Chg No wC W) => (Hxq.out.keep crC).keepNo hW)
          have HxsC := Lib.hid (fun W (hW : Chg No wC W) => (Hxs.out.keep crC).keepNo hW)
          have HxtC := Lib.hid (fun W (hW : Chg No wC W) => (Hxt.out.keep crC).keepNo hW)
          have hcode : (rows2.length = rows.length ∧ code = 0) ∨ (rows2.length = rows.length + 1 ∧ code = 0) ∨ (rows2.length = rows.length ∧ ¬ code = 0) := by
            rcases hgrow.out with h1 | ⟨h1, h2⟩
            · by_cases h2 : code = 0
              · exact .inl ⟨h1, h2⟩
              · exact .inr (.inr ⟨h1, h2⟩)
            · exact .inr (.inl ⟨h1, h2⟩)
          rcases hcode with ⟨hg, hg0⟩ | ⟨hg, hg0⟩ | ⟨hg, hg0⟩
          focus
            subst hg0
            rw [hg, ← Hm.out]
            go_wp2_with (first | (with_reducible refine stop_append ?_) | (with_reducible refine stop_copy ?_) | (with_reducible refine stop_make ?_) | (with_reducible refine stop_lookup ?_) | (with_reducible refine stop_update ?_) | (with_reducible refine stop_slice ?_) | (with_reducible refine stop_range ?_) | (with_reducible refine stop_next ?_) | (with_reducible refine stop_convert ⟨_, rfl⟩ ?_) | (with_reducible refine stop_convertB ⟨_, _, _, rfl⟩ ?_) | (with_reducible refine stop_eqSlice ⟨_, _, rfl⟩ ?_))
            have hCF : Chg No wC wE := hCE
            obtain ⟨wF, rfl⟩ : ∃ W : World, W = wE := ⟨_, rfl⟩
          rotate_left
          focus
            have e1 : ((rows2.length - 1 : Nat) : Int) = m + 1 := by have := Hm.out; omega
            have E1 := Lib.hid e1
            have hov : ov2 = true := by rw [Hov2.out]; exact decide_eq_true (by omega)
            subst hov
            subst hg0
            rw [e1, ← Int.add_assoc]
            clear e1
            go_wp2_with (first | (with_reducible refine stop_append ?_) | (with_reducible refine stop_copy ?_) | (with_reducible refine stop_make ?_) | (with_reducible refine stop_lookup ?_) | (with_reducible refine stop_update ?_) | (with_reducible refine stop_slice ?_) | (with_reducible refine stop_range ?_) | (with_reducible refine stop_next ?_) | (with_reducible refine stop_convert ⟨_, rfl⟩ ?_) | (with_reducible refine stop_convertB ⟨_, _, _, rfl⟩ ?_) | (with_reducible refine stop_eqSlice ⟨_, _, rfl⟩ ?_))
            refine (Hcur2.out _ hCE).mono ?_
            rintro e wF ⟨rfl, hF⟩
            have hCF := hCE.trans hF
            replace y4 := hF.cell y4 (not_no _)
            rw [E1.out, ← Int.add_assoc]
            go_wp2_with (first | (with_reducible refine stop_append ?_) | (with_reducible refine stop_copy ?_) | (with_reducible refine stop_make ?_) | (with_reducible refine stop_lookup ?_) | (with_reducible refine stop_update ?_) | (with_reducible refine stop_slice ?_) | (with_reducible refine stop_range ?_) | (with_reducible refine stop_next ?_) | (with_reducible refine stop_convert ⟨_, rfl⟩ ?_) | (with_reducible refine stop_convertB ⟨_, _, _, rfl⟩ ?_) | (with_reducible refine stop_eqSlice ⟨_, _, rfl⟩ ?_))
          rotate_left
          focus
            rw [hg, ← Hm.out]
            have h0 : (code == 0) = false := by simpa using hg0
            go_wp2_with (first | (with_reducible refine stop_append ?_) | (with_reducible refine stop_copy ?_) | (with_reducible refine stop_make ?_) | (with_reducible refine stop_lookup ?_) | (with_reducible refine stop_update ?_) | (with_reducible refine stop_slice ?_) | (with_reducible refine stop_range ?_) | (with_reducible refine stop_next ?_) | (with_reducible refine stop_convert ⟨_, rfl⟩ ?_) | (with_reducible refine stop_convertB ⟨_, _, _, rfl⟩ ?_) | (with_reducible refine stop_eqSlice ⟨_, _, rfl⟩ ?_))
            refine pl_start (fun W => Chg No wE W) (by kernel_rfl) (by kernel_rfl) (Chg.refl No wE).drew ?_
            ((refine pl_yes (i := 0) (oi := { dst := some 92, op := Go.Op.move (Go.Operand.tmp 12), type := 54, pos := "law.go:131", after := #[], guard := none }) (v := ?_) rfl (by kernel_rfl) (by kernel_rfl) rfl ?_ ?_); rotate_left; focus (intro W hW; (try dsimp only at hW); go_split_ands; go_simp; (try (simp (disch := omega) only [IntWalk.i64_in]; (try go_simp))); (try (split; (next => omega); (try go_simp))); try rfl; done))
            try simp only [Act.put, List.setIfInBounds_toArray, List.set_cons_zero, List.set_cons_succ]
            ((refine pl_yes (i := 1) (oi := { dst := some 93, op := Go.Op.binOp Go.BinOp.eql 54 (Go.Operand.tmp 92) (Go.Operand.const (Go.Value.int Go.IntKind.i64 0)) 54, type := 4, pos := "law.go:131", after := #[{ on := 0, ground := Go.Ground.data }], guard := none }) (v := ?_) rfl (by kernel_rfl) (by kernel_rfl) rfl ?_ ?_); rotate_left; focus (intro W hW; (try dsimp only at hW); go_split_ands; go_simp; (try (simp (disch := omega) only [IntWalk.i64_in]; (try go_simp))); (try (split; (next => omega); (try go_simp))); try rfl; done))
            try simp only [Act.put, List.setIfInBounds_toArray, List.set_cons_zero, List.set_cons_succ]
            ((refine pl_yes (i := 2) (oi := { dst := some 94, op := Go.Op.move (Go.Operand.tmp 93), type := 4, pos := "law.go:131", after := #[{ on := 1, ground := Go.Ground.data }], guard := none }) (v := ?_) rfl (by kernel_rfl) (by kernel_rfl) rfl ?_ ?_); rotate_left; focus (intro W hW; (try dsimp only at hW); go_split_ands; go_simp; (try (simp (disch := omega) only [IntWalk.i64_in]; (try go_simp))); (try (split; (next => omega); (try go_simp))); try rfl; done))
            try simp only [Act.put, List.setIfInBounds_toArray, List.set_cons_zero, List.set_cons_succ]
            first | (refine pl_no (i := 3) (oi := { dst := some 95, op := Go.Op.move (Go.Operand.tmp 5), type := 65, pos := "law.go:131", after := #[{ on := 2, ground := Go.Ground.guard }], guard := some (2, true) }) rfl (by kernel_rfl) (by kernel_rfl) rfl ?_) | ((refine pl_yes (i := 3) (oi := { dst := some 95, op := Go.Op.move (Go.Operand.tmp 5), type := 65, pos := "law.go:131", after := #[{ on := 2, ground := Go.Ground.guard }], guard := some (2, true) }) (v := ?_) rfl (by kernel_rfl) (by kernel_rfl) rfl ?_ ?_); rotate_left; focus (intro W hW; (try dsimp only at hW); go_split_ands; go_simp; (try (simp (disch := omega) only [IntWalk.i64_in]; (try go_simp))); (try (split; (next => omega); (try go_simp))); try rfl; done))
            try simp only [Act.put, List.setIfInBounds_toArray, List.set_cons_zero, List.set_cons_succ]
            first | (refine pl_no (i := 4) (oi := { dst := some 96, op := Go.Op.fieldAddr 71 (Go.Operand.tmp 8) 0, type := 0, pos := "law.go:131", after := #[{ on := 2, ground := Go.Ground.guard }], guard := some (2, true) }) rfl (by kernel_rfl) (by kernel_rfl) rfl ?_) | ((refine pl_yes (i := 4) (oi := { dst := some 96, op := Go.Op.fieldAddr 71 (Go.Operand.tmp 8) 0, type := 0, pos := "law.go:131", after := #[{ on := 2, ground := Go.Ground.guard }], guard := some (2, true) }) (v := ?_) rfl (by kernel_rfl) (by kernel_rfl) rfl ?_ ?_); rotate_left; focus (intro W hW; (try dsimp only at hW); go_split_ands; go_simp; (try (simp (disch := omega) only [IntWalk.i64_in]; (try go_simp))); (try (split; (next => omega); (try go_simp))); try rfl; done))
            try simp only [Act.put, List.setIfInBounds_toArray, List.set_cons_zero, List.set_cons_succ]
            first | (refine pl_no (i := 5) (oi := { dst := some 97, op := Go.Op.load 63 (Go.Operand.tmp 96), type := 63, pos := "law.go:131", after := #[{ on := 4, ground := Go.Ground.data }, { on := 2, ground := Go.Ground.guard }], guard := some (2, true) }) rfl (by kernel_rfl) (by kernel_rfl) rfl ?_) | ((refine pl_yes (i := 5) (oi := { dst := some 97, op := Go.Op.load 63 (Go.Operand.tmp 96), type := 63, pos := "law.go:131", after := #[{ on := 4, ground := Go.Ground.data }, { on := 2, ground := Go.Ground.guard }], guard := some (2, true) }) (v := ?_) rfl (by kernel_rfl) (by kernel_rfl) rfl ?_ ?_); rotate_left; focus (intro W hW; (try dsimp only at hW); go_split_ands; go_simp; (try (simp (disch := omega) only [IntWalk.i64_in]; (try go_simp))); (try (split; (next => omega); (try go_simp))); try rfl; done))
            try simp only [Act.put, List.setIfInBounds_toArray, List.set_cons_zero, List.set_cons_succ]
            first | (refine pl_no (i := 6) (oi := { dst := some 98, op := Go.Op.fieldAddr 71 (Go.Operand.tmp 8) 1, type := 0, pos := "law.go:131", after := #[{ on := 2, ground := Go.Ground.guard }], guard := some (2, true) }) rfl (by kernel_rfl) (by kernel_rfl) rfl ?_) | ((refine pl_yes (i := 6) (oi := { dst := some 98, op := Go.Op.fieldAddr 71 (Go.Operand.tmp 8) 1, type := 0, pos := "law.go:131", after := #[{ on := 2, ground := Go.Ground.guard }], guard := some (2, true) }) (v := ?_) rfl (by kernel_rfl) (by kernel_rfl) rfl ?_ ?_); rotate_left; focus (intro W hW; (try dsimp only at hW); go_split_ands; go_simp; (try (simp (disch := omega) only [IntWalk.i64_in]; (try go_simp))); (try (split; (next => omega); (try go_simp))); try rfl; done))
            try simp only [Act.put, List.setIfInBounds_toArray, List.set_cons_zero, List.set_cons_succ]
            first | (refine pl_no (i := 7) (oi := { dst := some 99, op := Go.Op.load 22 (Go.Operand.tmp 98), type := 22, pos := "law.go:131", after := #[{ on := 6, ground := Go.Ground.data }, { on := 2, ground := Go.Ground.guard }], guard := some (2, true) }) rfl (by kernel_rfl) (by kernel_rfl) rfl ?_) | ((refine pl_yes (i := 7) (oi := { dst := some 99, op := Go.Op.load 22 (Go.Operand.tmp 98), type := 22, pos := "law.go:131", after := #[{ on := 6, ground := Go.Ground.data }, { on := 2, ground := Go.Ground.guard }], guard := some (2, true) }) (v := ?_) rfl (by kernel_rfl) (by kernel_rfl) rfl ?_ ?_); rotate_left; focus (intro W hW; (try dsimp only at hW); go_split_ands; go_simp; (try (simp (disch := omega) only [IntWalk.i64_in]; (try go_simp))); (try (split; (next => omega); (try go_simp))); try rfl; done))
            try simp only [Act.put, List.setIfInBounds_toArray, List.set_cons_zero, List.set_cons_succ]
            -- ready: [8]
            refine pl_no (i := 8) (oi := { dst := some 100, op := Go.Op.call { callee := Go.Callee.value (Go.Operand.func 34), args := #[Go.Operand.tmp 99], argTypes := #[22] }, type := 28, pos := "law.go:131", after := #[{ on := 7, ground := Go.Ground.data }, { on := 2, ground := Go.Ground.chain }, { on := 2, ground := Go.Ground.guard }], guard := some (2, true) }) rfl (by kernel_rfl) (by kernel_rfl) rfl ?_
            try simp only [Act.put, List.setIfInBounds_toArray, List.set_cons_zero, List.set_cons_succ]
            -- ready: [9]
            refine pl_no (i := 9) (oi := { dst := some 101, op := Go.Op.call { callee := Go.Callee.value (Go.Operand.func 33), args := #[Go.Operand.tmp 95, Go.Operand.tmp 97, Go.Operand.tmp 100], argTypes := #[65, 68, 28] }, type := 54, pos := "law.go:131", after := #[{ on := 3, ground := Go.Ground.data }, { on := 5, ground := Go.Ground.data }, { on := 8, ground := Go.Ground.data }, { on := 8, ground := Go.Ground.chain }, { on := 2, ground := Go.Ground.guard }], guard := some (2, true) }) rfl (by kernel_rfl) (by kernel_rfl) rfl ?_
            try simp only [Act.put, List.setIfInBounds_toArray, List.set_cons_zero, List.set_cons_succ]
            first | (refine pl_no (i := 10) (oi := { dst := some 102, op := Go.Op.binOp Go.BinOp.neq 54 (Go.Operand.tmp 101) (Go.Operand.const (Go.Value.int Go.IntKind.i64 0)) 54, type := 4, pos := "law.go:131", after := #[{ on := 9, ground := Go.Ground.data }, { on := 2, ground := Go.Ground.guard }], guard := some (2, true) }) rfl (by kernel_rfl) (by kernel_rfl) rfl ?_) | ((refine pl_yes (i := 10) (oi := { dst := some 102, op := Go.Op.binOp Go.BinOp.neq 54 (Go.Operand.tmp 101) (Go.Operand.const (Go.Value.int Go.IntKind.i64 0)) 54, type := 4, pos := "law.go:131", after := #[{ on := 9, ground := Go.Ground.data }, { on := 2, ground := Go.Ground.guard }], guard := some (2, true) }) (v := ?_) rfl (by kernel_rfl) (by kernel_rfl) rfl ?_ ?_); rotate_left; focus (intro W hW; (try dsimp only at hW); go_split_ands; go_simp; (try (simp (disch := omega) only [IntWalk.i64_in]; (try go_simp))); (try (split; (next => omega); (try go_simp))); try rfl; done))
            try simp only [Act.put, List.setIfInBounds_toArray, List.set_cons_zero, List.set_cons_succ]
            first | (refine pl_no (i := 11) (oi := { dst := some 103, op := Go.Op.move (Go.Operand.tmp 102), type := 4, pos := "law.go:131", after := #[{ on := 10, ground := Go.Ground.data }, { on := 9, ground := Go.Ground.chain }, { on := 2, ground := Go.Ground.guard }], guard := some (2, true) }) rfl (by kernel_rfl) (by kernel_rfl) rfl ?_) | ((refine pl_yes (i := 11) (oi := { dst := some 103, op := Go.Op.move (Go.Operand.tmp 102), type := 4, pos := "law.go:131", after := #[{ on := 10, ground := Go.Ground.data }, { on := 9, ground := Go.Ground.chain }, { on := 2, ground := Go.Ground.guard }], guard := some (2, true) }) (v := ?_) rfl (by kernel_rfl) (by kernel_rfl) rfl ?_ ?_); rotate_left; focus (intro W hW; (try dsimp only at hW); go_split_ands; go_simp; (try (simp (disch := omega) only [IntWalk.i64_in]; (try go_simp))); (try (split; (next => omega); (try go_simp))); try rfl; done))
            try simp only [Act.put, List.setIfInBounds_toArray, List.set_cons_zero, List.set_cons_succ]
            first | (refine pl_no (i := 12) (oi := { dst := some 104, op := Go.Op.fieldAddr 71 (Go.Operand.tmp 8) 0, type := 0, pos := "law.go:131", after := #[{ on := 11, ground := Go.Ground.guard }], guard := some (11, false) }) rfl (by kernel_rfl) (by kernel_rfl) rfl ?_) | ((refine pl_yes (i := 12) (oi := { dst := some 104, op := Go.Op.fieldAddr 71 (Go.Operand.tmp 8) 0, type := 0, pos := "law.go:131", after := #[{ on := 11, ground := Go.Ground.guard }], guard := some (11, false) }) (v := ?_) rfl (by kernel_rfl) (by kernel_rfl) rfl ?_ ?_); rotate_left; focus (intro W hW; (try dsimp only at hW); go_split_ands; go_simp; (try (simp (disch := omega) only [IntWalk.i64_in]; (try go_simp))); (try (split; (next => omega); (try go_simp))); try rfl; done))
            try simp only [Act.put, List.setIfInBounds_toArray, List.set_cons_zero, List.set_cons_succ]
            first | (refine pl_no (i := 13) (oi := { dst := some 105, op := Go.Op.fieldAddr 63 (Go.Operand.tmp 104) 0, type := 0, pos := "law.go:131", after := #[{ on := 12, ground := Go.Ground.data }, { on := 11, ground := Go.Ground.guard }], guard := some (11, false) }) rfl (by kernel_rfl) (by kernel_rfl) rfl ?_) | ((refine pl_yes (i := 13) (oi := { dst := some 105, op := Go.Op.fieldAddr 63 (Go.Operand.tmp 104) 0, type := 0, pos := "law.go:131", after := #[{ on := 12, ground := Go.Ground.data }, { on := 11, ground := Go.Ground.guard }], guard := some (11, false) }) (v := ?_) rfl (by kernel_rfl) (by kernel_rfl) rfl ?_ ?_); rotate_left; focus (intro W hW; (try dsimp only at hW); go_split_ands; go_simp; (try (simp (disch := omega) only [IntWalk.i64_in]; (try go_simp))); (try (split; (next => omega); (try go_simp))); try rfl; done))
            try simp only [Act.put, List.setIfInBounds_toArray, List.set_cons_zero, List.set_cons_succ]
            first | (refine pl_no (i := 14) (oi := { dst := some 106, op := Go.Op.load 3 (Go.Operand.tmp 105), type := 3, pos := "law.go:131", after := #[{ on := 13, ground := Go.Ground.data }, { on := 11, ground := Go.Ground.guard }], guard := some (11, false) }) rfl (by kernel_rfl) (by kernel_rfl) rfl ?_) | ((refine pl_yes (i := 14) (oi := { dst := some 106, op := Go.Op.load 3 (Go.Operand.tmp 105), type := 3, pos := "law.go:131", after := #[{ on := 13, ground := Go.Ground.data }, { on := 11, ground := Go.Ground.guard }], guard := some (11, false) }) (v := ?_) rfl (by kernel_rfl) (by kernel_rfl) rfl ?_ ?_); rotate_left; focus (intro W hW; (try dsimp only at hW); go_split_ands; go_simp; (try (simp (disch := omega) only [IntWalk.i64_in]; (try go_simp))); (try (split; (next => omega); (try go_simp))); try rfl; done))
            try simp only [Act.put, List.setIfInBounds_toArray, List.set_cons_zero, List.set_cons_succ]
            first | (refine pl_no (i := 15) (oi := { dst := some 107, op := Go.Op.move (Go.Operand.tmp 5), type := 65, pos := "law.go:131", after := #[{ on := 11, ground := Go.Ground.guard }], guard := some (11, false) }) rfl (by kernel_rfl) (by kernel_rfl) rfl ?_) | ((refine pl_yes (i := 15) (oi := { dst := some 107, op := Go.Op.move (Go.Operand.tmp 5), type := 65, pos := "law.go:131", after := #[{ on := 11, ground := Go.Ground.guard }], guard := some (11, false) }) (v := ?_) rfl (by kernel_rfl) (by kernel_rfl) rfl ?_ ?_); rotate_left; focus (intro W hW; (try dsimp only at hW); go_split_ands; go_simp; (try (simp (disch := omega) only [IntWalk.i64_in]; (try go_simp))); (try (split; (next => omega); (try go_simp))); try rfl; done))
            try simp only [Act.put, List.setIfInBounds_toArray, List.set_cons_zero, List.set_cons_succ]
            -- ready: [16]
            refine pl_no (i := 16) (oi := { dst := some 108, op := Go.Op.call { callee := Go.Callee.value (Go.Operand.func 36), args := #[Go.Operand.tmp 107], argTypes := #[65] }, type := 3, pos := "law.go:131", after := #[{ on := 15, ground := Go.Ground.data }, { on := 11, ground := Go.Ground.chain }, { on := 11, ground := Go.Ground.guard }], guard := some (11, false) }) rfl (by kernel_rfl) (by kernel_rfl) rfl ?_
            try simp only [Act.put, List.setIfInBounds_toArray, List.set_cons_zero, List.set_cons_succ]
            first | (refine pl_no (i := 17) (oi := { dst := some 109, op := Go.Op.binOp Go.BinOp.gtr 3 (Go.Operand.tmp 106) (Go.Operand.tmp 108) 3, type := 4, pos := "law.go:131", after := #[{ on := 14, ground := Go.Ground.data }, { on := 16, ground := Go.Ground.data }, { on := 11, ground := Go.Ground.guard }], guard := some (11, false) }) rfl (by kernel_rfl) (by kernel_rfl) rfl ?_) | ((refine pl_yes (i := 17) (oi := { dst := some 109, op := Go.Op.binOp Go.BinOp.gtr 3 (Go.Operand.tmp 106) (Go.Operand.tmp 108) 3, type := 4, pos := "law.go:131", after := #[{ on := 14, ground := Go.Ground.data }, { on := 16, ground := Go.Ground.data }, { on := 11, ground := Go.Ground.guard }], guard := some (11, false) }) (v := ?_) rfl (by kernel_rfl) (by kernel_rfl) rfl ?_ ?_); rotate_left; focus (intro W hW; (try dsimp only at hW); go_split_ands; go_simp; (try (simp (disch := omega) only [IntWalk.i64_in]; (try go_simp))); (try (split; (next => omega); (try go_simp))); try rfl; done))
            try simp only [Act.put, List.setIfInBounds_toArray, List.set_cons_zero, List.set_cons_succ]
            first | (refine pl_no (i := 18) (oi := { dst := some 110, op := Go.Op.pick (Go.Operand.tmp 103) (Go.Operand.const (Go.Value.bool true)) (Go.Operand.tmp 109), type := 4, pos := "law.go:131", after := #[{ on := 11, ground := Go.Ground.data }, { on := 17, ground := Go.Ground.data }, { on := 2, ground := Go.Ground.guard }], guard := some (2, true) }) rfl (by kernel_rfl) (by kernel_rfl) rfl ?_) | ((refine pl_yes (i := 18) (oi := { dst := some 110, op := Go.Op.pick (Go.Operand.tmp 103) (Go.Operand.const (Go.Value.bool true)) (Go.Operand.tmp 109), type := 4, pos := "law.go:131", after := #[{ on := 11, ground := Go.Ground.data }, { on := 17, ground := Go.Ground.data }, { on := 2, ground := Go.Ground.guard }], guard := some (2, true) }) (v := ?_) rfl (by kernel_rfl) (by kernel_rfl) rfl ?_ ?_); rotate_left; focus (intro W hW; (try dsimp only at hW); go_split_ands; go_simp; (try (simp (disch := omega) only [IntWalk.i64_in]; (try go_simp))); (try (split; (next => omega); (try go_simp))); try rfl; done))
            try simp only [Act.put, List.setIfInBounds_toArray, List.set_cons_zero, List.set_cons_succ]
            ((refine pl_yes (i := 19) (oi := { dst := some 111, op := Go.Op.pick (Go.Operand.tmp 94) (Go.Operand.tmp 110) (Go.Operand.const (Go.Value.bool false)), type := 4, pos := "law.go:131", after := #[{ on := 2, ground := Go.Ground.data }, { on := 18, ground := Go.Ground.data }], guard := none }) (v := ?_) rfl (by kernel_rfl) (by kernel_rfl) rfl ?_ ?_); rotate_left; focus (intro W hW; (try dsimp only at hW); go_split_ands; go_simp; (try (simp (disch := omega) only [IntWalk.i64_in]; (try go_simp))); (try (split; (next => omega); (try go_simp))); try rfl; done))
            try simp only [Act.put, List.setIfInBounds_toArray, List.set_cons_zero, List.set_cons_succ]
            -- ready: []
            refine pl_done (by kernel_rfl)  ?_
            rintro wG hG
            have c9r := c8r.trans (hCE.trans hG).of_no
            have Hr9 := Lib.hid (Hr8.out.keepNo (hCE.trans hG))
            go_wp2_with (first | (with_reducible refine stop_append ?_) | (with_reducible refine stop_copy ?_) | (with_reducible refine stop_make ?_) | (with_reducible refine stop_lookup ?_) | (with_reducible refine stop_update ?_) | (with_reducible refine stop_slice ?_) | (with_reducible refine stop_range ?_) | (with_reducible refine stop_next ?_) | (with_reducible refine stop_convert ⟨_, rfl⟩ ?_) | (with_reducible refine stop_convertB ⟨_, _, _, rfl⟩ ?_) | (with_reducible refine stop_eqSlice ⟨_, _, rfl⟩ ?_))
            go_roundw
            case rel => exact ⟨k + 1, rows2, by omega, by go_num, c9r, Hr9.out, hfir1⟩
            case measure => simp [intOf]; omega
          all_goals
            obtain ⟨hag, hagt⟩ := hagain.out (by first | rfl | trivial)
            rw [hfir2] at hagt
            clear y4 o13
            have Hmine2 := Lib.hid (fun W (hW : Chg No wC W) => mine14_any (.slice Bt xl.length dt) xl W (HxtC.out W hW).no (by have := hlx.1; omega))
            have Hinst2 := Lib.hid (fun W vm (hW : Chg No wC W) (hm : Sl No W vm xl) => install_any B p rows2 xt (.slice Bq xq.length dq) (.slice Bs xs.length ds) vm xq xs xl W (Hr8.out.keepNo hW) hfir1.1 (HxqC.out W hW) (HxsC.out W hW) hm hcx hlx)
            simp only [hag] at Hinst2
            unfold cfgV at Hinst2
            have oF := hCF.obj o87 (not_no _)
            have cd := (Chg.refl No wF).drew
            refine rt_start (fun W => W.cell? ⟨b8, 0, none⟩ = some (.int .i64 xt) ∧ W.cell? ⟨b8, 1, none⟩ = some (.slice Bq xq.length dq) ∧ W.cell? ⟨b8, 2, none⟩ = some (.slice Bs xs.length ds) ∧ W.cell? ⟨b8, 3, none⟩ = some (.slice Bt xl.length dt)) (by kernel_rfl) ?_
            ((refine rt_yes (i := 0) (oi := { dst := some 92, op := Go.Op.move (Go.Operand.tmp 12), type := 54, pos := "law.go:131", after := #[], guard := none }) (v := ?_) rfl (by kernel_rfl) (by kernel_rfl) (by kernel_rfl) (fun _ _ _ h => h) rfl ?_ ?_); rotate_left; focus (intro W hW; (try dsimp only at hW); go_split_ands; go_simp; (try (simp (disch := omega) only [IntWalk.i64_in]; (try go_simp))); (try (split; (next => omega); (try go_simp))); try rfl; done))
            try simp only [Act.put, List.setIfInBounds_toArray, List.set_cons_zero, List.set_cons_succ]
            ((refine rt_yes (i := 1) (oi := { dst := some 93, op := Go.Op.binOp Go.BinOp.eql 54 (Go.Operand.tmp 92) (Go.Operand.const (Go.Value.int Go.IntKind.i64 0)) 54, type := 4, pos := "law.go:131", after := #[{ on := 0, ground := Go.Ground.data }], guard := none }) (v := ?_) rfl (by kernel_rfl) (by kernel_rfl) (by kernel_rfl) (fun _ _ _ h => h) rfl ?_ ?_); rotate_left; focus (intro W hW; (try dsimp only at hW); go_split_ands; go_simp; (try (simp (disch := omega) only [IntWalk.i64_in]; (try go_simp))); (try (split; (next => omega); (try go_simp))); try rfl; done))
            try simp only [Act.put, List.setIfInBounds_toArray, List.set_cons_zero, List.set_cons_succ]
            ((refine rt_yes (i := 2) (oi := { dst := some 94, op := Go.Op.move (Go.Operand.tmp 93), type := 4, pos := "law.go:131", after := #[{ on := 1, ground := Go.Ground.data }], guard := none }) (v := ?_) rfl (by kernel_rfl) (by kernel_rfl) (by kernel_rfl) (fun _ _ _ h => h) rfl ?_ ?_); rotate_left; focus (intro W hW; (try dsimp only at hW); go_split_ands; go_simp; (try (simp (disch := omega) only [IntWalk.i64_in]; (try go_simp))); (try (split; (next => omega); (try go_simp))); try rfl; done))
            try simp only [Act.put, List.setIfInBounds_toArray, List.set_cons_zero, List.set_cons_succ]
            first | (refine rt_no (i := 3) (oi := { dst := some 95, op := Go.Op.move (Go.Operand.tmp 5), type := 65, pos := "law.go:131", after := #[{ on := 2, ground := Go.Ground.guard }], guard := some (2, true) }) rfl (by kernel_rfl) (by kernel_rfl) (by kernel_rfl) (fun _ _ _ h => h) rfl ?_) | ((refine rt_yes (i := 3) (oi := { dst := some 95, op := Go.Op.move (Go.Operand.tmp 5), type := 65, pos := "law.go:131", after := #[{ on := 2, ground := Go.Ground.guard }], guard := some (2, true) }) (v := ?_) rfl (by kernel_rfl) (by kernel_rfl) (by kernel_rfl) (fun _ _ _ h => h) rfl ?_ ?_); rotate_left; focus (intro W hW; (try dsimp only at hW); go_split_ands; go_simp; (try (simp (disch := omega) only [IntWalk.i64_in]; (try go_simp))); (try (split; (next => omega); (try go_simp))); try rfl; done))
            try simp only [Act.put, List.setIfInBounds_toArray, List.set_cons_zero, List.set_cons_succ]
            first | (refine rt_no (i := 4) (oi := { dst := some 96, op := Go.Op.fieldAddr 71 (Go.Operand.tmp 8) 0, type := 0, pos := "law.go:131", after := #[{ on := 2, ground := Go.Ground.guard }], guard := some (2, true) }) rfl (by kernel_rfl) (by kernel_rfl) (by kernel_rfl) (fun _ _ _ h => h) rfl ?_) | ((refine rt_yes (i := 4) (oi := { dst := some 96, op := Go.Op.fieldAddr 71 (Go.Operand.tmp 8) 0, type := 0, pos := "law.go:131", after := #[{ on := 2, ground := Go.Ground.guard }], guard := some (2, true) }) (v := ?_) rfl (by kernel_rfl) (by kernel_rfl) (by kernel_rfl) (fun _ _ _ h => h) rfl ?_ ?_); rotate_left; focus (intro W hW; (try dsimp only at hW); go_split_ands; go_simp; (try (simp (disch := omega) only [IntWalk.i64_in]; (try go_simp))); (try (split; (next => omega); (try go_simp))); try rfl; done))
            try simp only [Act.put, List.setIfInBounds_toArray, List.set_cons_zero, List.set_cons_succ]
            first | (refine rt_no (i := 5) (oi := { dst := some 97, op := Go.Op.load 63 (Go.Operand.tmp 96), type := 63, pos := "law.go:131", after := #[{ on := 4, ground := Go.Ground.data }, { on := 2, ground := Go.Ground.guard }], guard := some (2, true) }) rfl (by kernel_rfl) (by kernel_rfl) (by kernel_rfl) (fun _ _ _ h => h) rfl ?_) | ((refine rt_yes (i := 5) (oi := { dst := some 97, op := Go.Op.load 63 (Go.Operand.tmp 96), type := 63, pos := "law.go:131", after := #[{ on := 4, ground := Go.Ground.data }, { on := 2, ground := Go.Ground.guard }], guard := some (2, true) }) (v := ?_) rfl (by kernel_rfl) (by kernel_rfl) (by kernel_rfl) (fun _ _ _ h => h) rfl ?_ ?_); rotate_left; focus (intro W hW; (try dsimp only at hW); go_split_ands; go_simp; (try (simp (disch := omega) only [IntWalk.i64_in]; (try go_simp))); (try (split; (next => omega); (try go_simp))); try rfl; done))
            try simp only [Act.put, List.setIfInBounds_toArray, List.set_cons_zero, List.set_cons_succ]
            first | (refine rt_no (i := 6) (oi := { dst := some 98, op := Go.Op.fieldAddr 71 (Go.Operand.tmp 8) 1, type := 0, pos := "law.go:131", after := #[{ on := 2, ground := Go.Ground.guard }], guard := some (2, true) }) rfl (by kernel_rfl) (by kernel_rfl) (by kernel_rfl) (fun _ _ _ h => h) rfl ?_) | ((refine rt_yes (i := 6) (oi := { dst := some 98, op := Go.Op.fieldAddr 71 (Go.Operand.tmp 8) 1, type := 0, pos := "law.go:131", after := #[{ on := 2, ground := Go.Ground.guard }], guard := some (2, true) }) (v := ?_) rfl (by kernel_rfl) (by kernel_rfl) (by kernel_rfl) (fun _ _ _ h => h) rfl ?_ ?_); rotate_left; focus (intro W hW; (try dsimp only at hW); go_split_ands; go_simp; (try (simp (disch := omega) only [IntWalk.i64_in]; (try go_simp))); (try (split; (next => omega); (try go_simp))); try rfl; done))
            try simp only [Act.put, List.setIfInBounds_toArray, List.set_cons_zero, List.set_cons_succ]
            first | (refine rt_no (i := 7) (oi := { dst := some 99, op := Go.Op.load 22 (Go.Operand.tmp 98), type := 22, pos := "law.go:131", after := #[{ on := 6, ground := Go.Ground.data }, { on := 2, ground := Go.Ground.guard }], guard := some (2, true) }) rfl (by kernel_rfl) (by kernel_rfl) (by kernel_rfl) (fun _ _ _ h => h) rfl ?_) | ((refine rt_yes (i := 7) (oi := { dst := some 99, op := Go.Op.load 22 (Go.Operand.tmp 98), type := 22, pos := "law.go:131", after := #[{ on := 6, ground := Go.Ground.data }, { on := 2, ground := Go.Ground.guard }], guard := some (2, true) }) (v := ?_) rfl (by kernel_rfl) (by kernel_rfl) (by kernel_rfl) (fun _ _ _ h => h) rfl ?_ ?_); rotate_left; focus (intro W hW; (try dsimp only at hW); go_split_ands; go_simp; (try (simp (disch := omega) only [IntWalk.i64_in]; (try go_simp))); (try (split; (next => omega); (try go_simp))); try rfl; done))
            try simp only [Act.put, List.setIfInBounds_toArray, List.set_cons_zero, List.set_cons_succ]
            -- ready: [8]
            refine rt_k (fun W => W.cell? ⟨b8, 0, none⟩ = some (.int .i64 xt) ∧ W.cell? ⟨b8, 1, none⟩ = some (.slice Bq xq.length dq) ∧ W.cell? ⟨b8, 2, none⟩ = some (.slice Bs xs.length ds) ∧ W.cell? ⟨b8, 3, none⟩ = some (.slice Bt xl.length dt)) (i := 8) (oi := { dst := some 100, op := Go.Op.call { callee := Go.Callee.value (Go.Operand.func 34), args := #[Go.Operand.tmp 99], argTypes := #[22] }, type := 28, pos := "law.go:131", after := #[{ on := 7, ground := Go.Ground.data }, { on := 2, ground := Go.Ground.chain }, { on := 2, ground := Go.Ground.guard }], guard := some (2, true) }) (by kernel_rfl) (HS.out _ (cd.obj oF (not_no _))) (fun _ h => h) rfl (by rfl) (fun K hK => ?_)
            go_simp
            refine (Hmine2.out _ (hCF.trans cd)).mono ?_
            rintro e wG ⟨vn, rfl, hG, sn⟩
            have cdG := cd.trans hG
            refine hK _ _ ?_
            clear hK K
            try simp only [Act.put, List.setIfInBounds_toArray, List.set_cons_zero, List.set_cons_succ]
            -- ready: [9]
            refine rt_k (fun W => W.cell? ⟨b8, 0, none⟩ = some (.int .i64 xt) ∧ W.cell? ⟨b8, 1, none⟩ = some (.slice Bq xq.length dq) ∧ W.cell? ⟨b8, 2, none⟩ = some (.slice Bs xs.length ds) ∧ W.cell? ⟨b8, 3, none⟩ = some (.slice Bt xl.length dt)) (i := 9) (oi := { dst := some 101, op := Go.Op.call { callee := Go.Callee.value (Go.Operand.func 33), args := #[Go.Operand.tmp 95, Go.Operand.tmp 97, Go.Operand.tmp 100], argTypes := #[65, 68, 28] }, type := 54, pos := "law.go:131", after := #[{ on := 3, ground := Go.Ground.data }, { on := 5, ground := Go.Ground.data }, { on := 8, ground := Go.Ground.data }, { on := 8, ground := Go.Ground.chain }, { on := 2, ground := Go.Ground.guard }], guard := some (2, true) }) (by kernel_rfl) (HS.out _ (cdG.obj oF (not_no _))) (fun _ h => h) rfl (by rfl) (fun K hK => ?_)
            go_simp
            refine (Hinst2.out _ _ (hCF.trans cdG) sn).mono ?_
            rintro e wH ⟨rfl, hin2, hrH⟩
            have oH := (off88.no Hr8.out (hCF.trans cdG)).obj hin2 (cdG.obj oF (not_no _))
            have c9r := (c8r.trans (hCF.trans cdG).of_no).trans (hin2.ge (Hr8.out.keepNo (hCF.trans cdG)))
            refine hK _ _ ?_
            clear hK K
            try simp only [Act.put, List.setIfInBounds_toArray, List.set_cons_zero, List.set_cons_succ]
            first | (refine rt_no (i := 10) (oi := { dst := some 102, op := Go.Op.binOp Go.BinOp.neq 54 (Go.Operand.tmp 101) (Go.Operand.const (Go.Value.int Go.IntKind.i64 0)) 54, type := 4, pos := "law.go:131", after := #[{ on := 9, ground := Go.Ground.data }, { on := 2, ground := Go.Ground.guard }], guard := some (2, true) }) rfl (by kernel_rfl) (by kernel_rfl) (by kernel_rfl) (fun _ _ _ h => h) rfl ?_) | ((refine rt_yes (i := 10) (oi := { dst := some 102, op := Go.Op.binOp Go.BinOp.neq 54 (Go.Operand.tmp 101) (Go.Operand.const (Go.Value.int Go.IntKind.i64 0)) 54, type := 4, pos := "law.go:131", after := #[{ on := 9, ground := Go.Ground.data }, { on := 2, ground := Go.Ground.guard }], guard := some (2, true) }) (v := ?_) rfl (by kernel_rfl) (by kernel_rfl) (by kernel_rfl) (fun _ _ _ h => h) rfl ?_ ?_); rotate_left; focus (intro W hW; (try dsimp only at hW); go_split_ands; go_simp; (try (simp (disch := omega) only [IntWalk.i64_in]; (try go_simp))); (try (split; (next => omega); (try go_simp))); try rfl; done))
            try simp only [Act.put, List.setIfInBounds_toArray, List.set_cons_zero, List.set_cons_succ]
            first | (refine rt_no (i := 11) (oi := { dst := some 103, op := Go.Op.move (Go.Operand.tmp 102), type := 4, pos := "law.go:131", after := #[{ on := 10, ground := Go.Ground.data }, { on := 9, ground := Go.Ground.chain }, { on := 2, ground := Go.Ground.guard }], guard := some (2, true) }) rfl (by kernel_rfl) (by kernel_rfl) (by kernel_rfl) (fun _ _ _ h => h) rfl ?_) | ((refine rt_yes (i := 11) (oi := { dst := some 103, op := Go.Op.move (Go.Operand.tmp 102), type := 4, pos := "law.go:131", after := #[{ on := 10, ground := Go.Ground.data }, { on := 9, ground := Go.Ground.chain }, { on := 2, ground := Go.Ground.guard }], guard := some (2, true) }) (v := ?_) rfl (by kernel_rfl) (by kernel_rfl) (by kernel_rfl) (fun _ _ _ h => h) rfl ?_ ?_); rotate_left; focus (intro W hW; (try dsimp only at hW); go_split_ands; go_simp; (try (simp (disch := omega) only [IntWalk.i64_in]; (try go_simp))); (try (split; (next => omega); (try go_simp))); try rfl; done))
            try simp only [Act.put, List.setIfInBounds_toArray, List.set_cons_zero, List.set_cons_succ]
            first | (refine rt_no (i := 12) (oi := { dst := some 104, op := Go.Op.fieldAddr 71 (Go.Operand.tmp 8) 0, type := 0, pos := "law.go:131", after := #[{ on := 11, ground := Go.Ground.guard }], guard := some (11, false) }) rfl (by kernel_rfl) (by kernel_rfl) (by kernel_rfl) (fun _ _ _ h => h) rfl ?_) | ((refine rt_yes (i := 12) (oi := { dst := some 104, op := Go.Op.fieldAddr 71 (Go.Operand.tmp 8) 0, type := 0, pos := "law.go:131", after := #[{ on := 11, ground := Go.Ground.guard }], guard := some (11, false) }) (v := ?_) rfl (by kernel_rfl) (by kernel_rfl) (by kernel_rfl) (fun _ _ _ h => h) rfl ?_ ?_); rotate_left; focus (intro W hW; (try dsimp only at hW); go_split_ands; go_simp; (try (simp (disch := omega) only [IntWalk.i64_in]; (try go_simp))); (try (split; (next => omega); (try go_simp))); try rfl; done))
            try simp only [Act.put, List.setIfInBounds_toArray, List.set_cons_zero, List.set_cons_succ]
            first | (refine rt_no (i := 13) (oi := { dst := some 105, op := Go.Op.fieldAddr 63 (Go.Operand.tmp 104) 0, type := 0, pos := "law.go:131", after := #[{ on := 12, ground := Go.Ground.data }, { on := 11, ground := Go.Ground.guard }], guard := some (11, false) }) rfl (by kernel_rfl) (by kernel_rfl) (by kernel_rfl) (fun _ _ _ h => h) rfl ?_) | ((refine rt_yes (i := 13) (oi := { dst := some 105, op := Go.Op.fieldAddr 63 (Go.Operand.tmp 104) 0, type := 0, pos := "law.go:131", after := #[{ on := 12, ground := Go.Ground.data }, { on := 11, ground := Go.Ground.guard }], guard := some (11, false) }) (v := ?_) rfl (by kernel_rfl) (by kernel_rfl) (by kernel_rfl) (fun _ _ _ h => h) rfl ?_ ?_); rotate_left; focus (intro W hW; (try dsimp only at hW); go_split_ands; go_simp; (try (simp (disch := omega) only [IntWalk.i64_in]; (try go_simp))); (try (split; (next => omega); (try go_simp))); try rfl; done))
            try simp only [Act.put, List.setIfInBounds_toArray, List.set_cons_zero, List.set_cons_succ]
            first | (refine rt_no (i := 14) (oi := { dst := some 106, op := Go.Op.load 3 (Go.Operand.tmp 105), type := 3, pos := "law.go:131", after := #[{ on := 13, ground := Go.Ground.data }, { on := 11, ground := Go.Ground.guard }], guard := some (11, false) }) rfl (by kernel_rfl) (by kernel_rfl) (by kernel_rfl) (fun _ _ _ h => h) rfl ?_) | ((refine rt_yes (i := 14) (oi := { dst := some 106, op := Go.Op.load 3 (Go.Operand.tmp 105), type := 3, pos := "law.go:131", after := #[{ on := 13, ground := Go.Ground.data }, { on := 11, ground := Go.Ground.guard }], guard := some (11, false) }) (v := ?_) rfl (by kernel_rfl) (by kernel_rfl) (by kernel_rfl) (fun _ _ _ h => h) rfl ?_ ?_); rotate_left; focus (intro W hW; (try dsimp only at hW); go_split_ands; go_simp; (try (simp (disch := omega) only [IntWalk.i64_in]; (try go_simp))); (try (split; (next => omega); (try go_simp))); try rfl; done))
            try simp only [Act.put, List.setIfInBounds_toArray, List.set_cons_zero, List.set_cons_succ]
            first | (refine rt_no (i := 15) (oi := { dst := some 107, op := Go.Op.move (Go.Operand.tmp 5), type := 65, pos := "law.go:131", after := #[{ on := 11, ground := Go.Ground.guard }], guard := some (11, false) }) rfl (by kernel_rfl) (by kernel_rfl) (by kernel_rfl) (fun _ _ _ h => h) rfl ?_) | ((refine rt_yes (i := 15) (oi := { dst := some 107, op := Go.Op.move (Go.Operand.tmp 5), type := 65, pos := "law.go:131", after := #[{ on := 11, ground := Go.Ground.guard }], guard := some (11, false) }) (v := ?_) rfl (by kernel_rfl) (by kernel_rfl) (by kernel_rfl) (fun _ _ _ h => h) rfl ?_ ?_); rotate_left; focus (intro W hW; (try dsimp only at hW); go_split_ands; go_simp; (try (simp (disch := omega) only [IntWalk.i64_in]; (try go_simp))); (try (split; (next => omega); (try go_simp))); try rfl; done))
            try simp only [Act.put, List.setIfInBounds_toArray, List.set_cons_zero, List.set_cons_succ]
            -- ready: [16]
            refine rt_k (fun W => W.cell? ⟨b8, 0, none⟩ = some (.int .i64 xt) ∧ W.cell? ⟨b8, 1, none⟩ = some (.slice Bq xq.length dq) ∧ W.cell? ⟨b8, 2, none⟩ = some (.slice Bs xs.length ds) ∧ W.cell? ⟨b8, 3, none⟩ = some (.slice Bt xl.length dt)) (i := 16) (oi := { dst := some 108, op := Go.Op.call { callee := Go.Callee.value (Go.Operand.func 36), args := #[Go.Operand.tmp 107], argTypes := #[65] }, type := 3, pos := "law.go:131", after := #[{ on := 15, ground := Go.Ground.data }, { on := 11, ground := Go.Ground.chain }, { on := 11, ground := Go.Ground.guard }], guard := some (11, false) }) (by kernel_rfl) (HS.out _ oH) (fun _ h => h) rfl (by rfl) (fun K hK => ?_)
            go_simp
            refine (rcurrent_any B p rows2 _ hrH hfir1.1).mono ?_
            rintro e wI ⟨rfl, hI⟩
            rw [hfir2]
            have hgt : ¬ f + ((rows2.length - 1 : Nat) : Int) < xt := by omega
            have c10r := c9r.trans hI.of_no
            have HrI := Lib.hid (hrH.keepNo hI)
            refine hK _ _ ?_
            clear hK K
            try simp only [Act.put, List.setIfInBounds_toArray, List.set_cons_zero, List.set_cons_succ]
            first | (refine rt_no (i := 17) (oi := { dst := some 109, op := Go.Op.binOp Go.BinOp.gtr 3 (Go.Operand.tmp 106) (Go.Operand.tmp 108) 3, type := 4, pos := "law.go:131", after := #[{ on := 14, ground := Go.Ground.data }, { on := 16, ground := Go.Ground.data }, { on := 11, ground := Go.Ground.guard }], guard := some (11, false) }) rfl (by kernel_rfl) (by kernel_rfl) (by kernel_rfl) (fun _ _ _ h => h) rfl ?_) | ((refine rt_yes (i := 17) (oi := { dst := some 109, op := Go.Op.binOp Go.BinOp.gtr 3 (Go.Operand.tmp 106) (Go.Operand.tmp 108) 3, type := 4, pos := "law.go:131", after := #[{ on := 14, ground := Go.Ground.data }, { on := 16, ground := Go.Ground.data }, { on := 11, ground := Go.Ground.guard }], guard := some (11, false) }) (v := ?_) rfl (by kernel_rfl) (by kernel_rfl) (by kernel_rfl) (fun _ _ _ h => h) rfl ?_ ?_); rotate_left; focus (intro W hW; (try dsimp only at hW); go_split_ands; go_simp; (try (simp (disch := omega) only [IntWalk.i64_in]; (try go_simp))); (try (split; (next => omega); (try go_simp))); try rfl; done))
            try simp only [Act.put, List.setIfInBounds_toArray, List.set_cons_zero, List.set_cons_succ]
            first | (refine rt_no (i := 18) (oi := { dst := some 110, op := Go.Op.pick (Go.Operand.tmp 103) (Go.Operand.const (Go.Value.bool true)) (Go.Operand.tmp 109), type := 4, pos := "law.go:131", after := #[{ on := 11, ground := Go.Ground.data }, { on := 17, ground := Go.Ground.data }, { on := 2, ground := Go.Ground.guard }], guard := some (2, true) }) rfl (by kernel_rfl) (by kernel_rfl) (by kernel_rfl) (fun _ _ _ h => h) rfl ?_) | ((refine rt_yes (i := 18) (oi := { dst := some 110, op := Go.Op.pick (Go.Operand.tmp 103) (Go.Operand.const (Go.Value.bool true)) (Go.Operand.tmp 109), type := 4, pos := "law.go:131", after := #[{ on := 11, ground := Go.Ground.data }, { on := 17, ground := Go.Ground.data }, { on := 2, ground := Go.Ground.guard }], guard := some (2, true) }) (v := ?_) rfl (by kernel_rfl) (by kernel_rfl) (by kernel_rfl) (fun _ _ _ h => h) rfl ?_ ?_); rotate_left; focus (intro W hW; (try dsimp only at hW); go_split_ands; go_simp; (try (simp (disch := omega) only [IntWalk.i64_in]; (try go_simp))); (try (split; (next => omega); (try go_simp))); try rfl; done))
            try simp only [Act.put, List.setIfInBounds_toArray, List.set_cons_zero, List.set_cons_succ]
            -- ready: [19]
            refine rt_k (fun W => W.cell? ⟨b8, 0, none⟩ = some (.int .i64 xt) ∧ W.cell? ⟨b8, 1, none⟩ = some (.slice Bq xq.length dq) ∧ W.cell? ⟨b8, 2, none⟩ = some (.slice Bs xs.length ds) ∧ W.cell? ⟨b8, 3, none⟩ = some (.slice Bt xl.length dt)) (i := 19) (oi := { dst := some 111, op := Go.Op.pick (Go.Operand.tmp 94) (Go.Operand.tmp 110) (Go.Operand.const (Go.Value.bool false)), type := 4, pos := "law.go:131", after := #[{ on := 2, ground := Go.Ground.data }, { on := 18, ground := Go.Ground.data }], guard := none }) (by kernel_rfl) (HS.out _ (hI.obj oH (not_no _))) (fun _ h => h) rfl (by rfl) (fun K hK => ?_)
            go_simp
            refine hK _ _ ?_
            clear hK K
            try simp only [Act.put, List.setIfInBounds_toArray, List.set_cons_zero, List.set_cons_succ]
            -- ready: []
            refine rt_done (by kernel_rfl)  ?_
            clear hrH hin2 sn
            go_wp2_with (first | (with_reducible refine stop_append ?_) | (with_reducible refine stop_copy ?_) | (with_reducible refine stop_make ?_) | (with_reducible refine stop_lookup ?_) | (with_reducible refine stop_update ?_) | (with_reducible refine stop_slice ?_) | (with_reducible refine stop_range ?_) | (with_reducible refine stop_next ?_) | (with_reducible refine stop_convert ⟨_, rfl⟩ ?_) | (with_reducible refine stop_convertB ⟨_, _, _, rfl⟩ ?_) | (with_reducible refine stop_eqSlice ⟨_, _, rfl⟩ ?_))
            go_roundw
            case rel => exact ⟨k + 1, rows2, by omega, by go_num, c10r, HrI.out, hfir1⟩
            case measure => simp [intOf]; omega
        · obtain rfl : k = l.length := by omega
          go_wp2_with (first | (with_reducible refine stop_append ?_) | (with_reducible refine stop_copy ?_) | (with_reducible refine stop_make ?_) | (with_reducible refine stop_lookup ?_) | (with_reducible refine stop_update ?_) | (with_reducible refine stop_slice ?_) | (with_reducible refine stop_range ?_) | (with_reducible refine stop_next ?_) | (with_reducible refine stop_convert ⟨_, rfl⟩ ?_) | (with_reducible refine stop_convertB ⟨_, _, _, rfl⟩ ?_) | (with_reducible refine stop_eqSlice ⟨_, _, rfl⟩ ?_))
          refine (Hal.out _).mono ?_
          rintro e w3 ⟨rfl, hc3⟩
          go_wp2_with (first | (with_reducible refine stop_append ?_) | (with_reducible refine stop_copy ?_) | (with_reducible refine stop_make ?_) | (with_reducible refine stop_lookup ?_) | (with_reducible refine stop_update ?_) | (with_reducible refine stop_slice ?_) | (with_reducible refine stop_range ?_) | (with_reducible refine stop_next ?_) | (with_reducible refine stop_convert ⟨_, rfl⟩ ?_) | (with_reducible refine stop_convertB ⟨_, _, _, rfl⟩ ?_) | (with_reducible refine stop_eqSlice ⟨_, _, rfl⟩ ?_))
          go_ret
          exact ⟨rfl, ((hcw2.old hcr (fun i hi => by simp only [Ge] at hi; omega))).trans hc3⟩
end Go.Proofs.Ytbjpoamnglfjeaa

/- Texts RegS, RegU, RegY, RgaA, RegV, RdcI, RdcJ, RdcB, RdcC. -/
import Derived.Test.YtbjpoamnglfjeaaMg8
/- Walks of package register: Install. -/
set_option linter.unusedVariables false
set_option linter.unusedSimpArgs false
namespace Go.Proofs.Ytbjpoamnglfjeaa
open Go.RowKit Cb

set_option maxRecDepth 100000 in
set_option maxHeartbeats 4000000 in
theorem install_rightX (F : Nat → Prop) (B p : Nat) (rows : List Rw) (t : Int) (vq vs vt : Value) (q : List Int) (s : List (List Int)) (l : List Ent) (w : World) (hregX : RegX F w B p rows) (hFB : ∀ k, k < B → F k) (hF0 : ∀ k, F k → k < w.heap.size) (hi : RowsI rows)
    (hq : Sl (Ge B) w vq q) (hs : Sl (Ge B) w vs s) (ht : Sl No w vt l) (hbt : TailI l) (hr : rightC t q s = true) :
    Calls Try.prog 33 #[.pointer (some ⟨p, 0, none⟩), cfgV t vq vs, vt] w fun e w' => e = .returned (.int .i64 (installF rows t q s l).1) ∧ Inst w w' p ∧ RegX F w' B p (installF rows t q s l).2 := by
  have hreg := hregX.toS hFB
  have HregX := Lib.hid (fun W (hW : Chg No w W) => hregX.keepNo hW)
  have HF0 := Lib.hid hF0
  clear hregX hFB hF0
  obtain ⟨h7, h8, h3⟩ := right_small hr
  obtain ⟨ht1, ht2⟩ := (rightC_iff.1 hr).1
  obtain ⟨g, c, hc, hgp, hBg, hgw⟩ := rg_row hreg hi.1
  have hpw := hreg.lt
  have HI := Lib.hid (fun W (hW : Chg No w W) => Inst.no hreg hW)
  have hBp : B ≤ p := by obtain ⟨_, _, h, _⟩ := hreg; exact h
  have HqB := Lib.hid (fun W (hW : Chg (Ge B) w W) => hq.keep hW)
  have HsB := Lib.hid (fun W (hW : Chg (Ge B) w W) => hs.keep hW)
  replace hq := hq.no
  replace hs := hs.no
  obtain ⟨t1, he1⟩ : ∃ t1, t1 = t - 1 := ⟨_, rfl⟩
  have hw1 : IntKind.i64.wrap (t - 1) = t1 := by rw [IntWalk.i64_in _ (by omega)]; omega
  have hw2 : t - 1 = t1 := he1.symm
  have Hr := Lib.hid (fun W (hW : Chg No w W) => tright_any No No t vq vs q s W (hq.keepNo hW) (hs.keepNo hW) (by omega) (by omega) (fun x hx => by have := h3 x hx; omega))
  rw [hr] at Hr
  have Ha1 := Lib.hid (fun W (hW : Chg No w W) => rat_any B p rows W (hreg.keepNo hW) hi (hW.cell hc (not_no _)) rfl t1)
  have Ha2 := Lib.hid (fun W (hW : Chg No w W) => rat_any B p rows W (hreg.keepNo hW) hi (hW.cell hc (not_no _)) rfl t)
  have Hfi := Lib.hid (fun W (hW : Chg No w W) => fits_any (atV g (atR rows t1)) (nsF rows t1) vt l W ((rowp_any hreg hi hc t1).keep hW) (ht.keepNo hW) hbt.1 hbt.2)
  have hF : installF rows t q s l = installG rows t q s l (fitsB (nsF rows t1) l) (atR rows t) (atR rows t1) := by rw [installF, hr, Bool.true_and, hw2]
  generalize installF rows t q s l = R at *
  have HF := Lib.hid hF
  have Hq := Lib.hid (fun W (hW : Chg No w W) => hq.keepNo hW)
  have Hs := Lib.hid (fun W (hW : Chg No w W) => hs.keepNo hW)
  have Ht := Lib.hid (fun W (hW : Chg No w W) => ht.keepNo hW)
  have Hreg := Lib.hid (fun W (hW : Chg No w W) => hreg.keepNo hW)
  have Hh3 := Lib.hid h3
  have Hi := Lib.hid hi
  have Ha1F := Lib.hid (fun (i : Nat) (h : atR rows t1 = some i) => atR_some hi.1 h)
  have Ha2F := Lib.hid (fun (i : Nat) (h : atR rows t = some i) => atR_some hi.1 h)
  obtain ⟨Aq, cq, rfl⟩ := hq.slice
  obtain ⟨As, cs, rfl⟩ := hs.slice
  obtain ⟨At0, ct, rfl⟩ := ht.slice
  clear hq hs ht h3 hr hreg hF hi
  unfold cfgV at *
  have o1 := alloc_obj w (.cells #[.int .i64 t, .slice Aq q.length cq, .slice As s.length cs] 68)
  have hc0 := (Chg.refl No w).alloc (.cells #[.int .i64 t, .slice Aq q.length cq, .slice As s.length cs] 68)
  have a0 := cell_obj (i := 0) o1 rfl
  have a1 := cell_obj (i := 1) o1 rfl
  have a2 := cell_obj (i := 2) o1 rfl
  have Hsz := Lib.hid hc0.size
  obtain ⟨fb, hfb⟩ : ∃ b, b = fitsB (nsF rows t1) l := ⟨_, rfl⟩
  rw [← hfb] at Hfi HF
  have Hfbt := Lib.hid (fun h : fb = true => fits_tail (hfb ▸ h) hbt)
  obtain ⟨ao, hao⟩ : ∃ o, o = atR rows t1 := ⟨_, rfl⟩
  obtain ⟨oo, hoo⟩ : ∃ o, o = atR rows t := ⟨_, rfl⟩
  rw [← hao] at Ha1 Hfi HF Ha1F
  rw [← hoo] at Ha2 HF Ha2F
  clear hfb hao hoo he1 hbt
  go_enter Try.func33, Try.ntmps33
  go_wp2_with (with_reducible first | refine stop_append ?_ | refine stop_copy ?_ | refine stop_make ?_ | refine stop_lookup ?_ | refine stop_update ?_ | refine stop_slice ?_ | refine stop_range ?_ | refine stop_next ?_ | refine stop_convert ⟨_, rfl⟩ ?_ | refine stop_convertB ⟨_, _, _, rfl⟩ ?_ | refine stop_eqSlice ⟨_, _, rfl⟩ ?_)
  have hbw : w.heap.size < (w.alloc (.cells #[.int .i64 t, .slice Aq q.length cq, .slice As s.length cs] 68)).heap.size := by simp
  generalize w.alloc (.cells #[.int .i64 t, .slice Aq q.length cq, .slice As s.length cs] 68) = w0 at *
  obtain ⟨b, hb⟩ : ∃ b, b = w.heap.size := ⟨_, rfl⟩
  rw [← hb] at a0 a1 a2 o1 ⊢
  have Hb := Lib.hid hb
  clear hb
  refine (Hr.out _ hc0).mono ?_
  rintro e w1 ⟨rfl, hc1⟩
  replace a0 := hc1.cell a0 (not_no _)
  replace a1 := hc1.cell a1 (not_no _)
  replace a2 := hc1.cell a2 (not_no _)
  have cw1 := hc0.trans hc1
  go_wp2_with (with_reducible first | refine stop_append ?_ | refine stop_copy ?_ | refine stop_make ?_ | refine stop_lookup ?_ | refine stop_update ?_ | refine stop_slice ?_ | refine stop_range ?_ | refine stop_next ?_ | refine stop_convert ⟨_, rfl⟩ ?_ | refine stop_convertB ⟨_, _, _, rfl⟩ ?_ | refine stop_eqSlice ⟨_, _, rfl⟩ ?_)
  refine (Ha1.out _ cw1).mono ?_
  rintro e w2 ⟨rfl, hc2⟩
  replace a0 := hc2.cell a0 (not_no _)
  replace a1 := hc2.cell a1 (not_no _)
  replace a2 := hc2.cell a2 (not_no _)
  have cw2 := cw1.trans hc2
  go_wp2_with (with_reducible first | refine stop_append ?_ | refine stop_copy ?_ | refine stop_make ?_ | refine stop_lookup ?_ | refine stop_update ?_ | refine stop_slice ?_ | refine stop_range ?_ | refine stop_next ?_ | refine stop_convert ⟨_, rfl⟩ ?_ | refine stop_convertB ⟨_, _, _, rfl⟩ ?_ | refine stop_eqSlice ⟨_, _, rfl⟩ ?_)
  refine (Hfi.out _ cw2).mono ?_
  rintro e w3 ⟨rfl, hc3⟩
  replace a0 := hc3.cell a0 (not_no _)
  replace a1 := hc3.cell a1 (not_no _)
  replace a2 := hc3.cell a2 (not_no _)
  have cw3 := cw2.trans hc3
  clear hc1 hc2 hc3 cw1 cw2
  rcases fb with _ | _
  · go_wp2_with (with_reducible first | refine stop_append ?_ | refine stop_copy ?_ | refine stop_make ?_ | refine stop_lookup ?_ | refine stop_update ?_ | refine stop_slice ?_ | refine stop_range ?_ | refine stop_next ?_ | refine stop_convert ⟨_, rfl⟩ ?_ | refine stop_convertB ⟨_, _, _, rfl⟩ ?_ | refine stop_eqSlice ⟨_, _, rfl⟩ ?_)
    go_ret
    rw [HF.out]
    exact ⟨rfl, HI.out _ cw3, HregX.out _ cw3⟩
  · have Hbt := Lib.hid (Hfbt.out rfl)
    go_wp2_with (with_reducible first | refine stop_append ?_ | refine stop_copy ?_ | refine stop_make ?_ | refine stop_lookup ?_ | refine stop_update ?_ | refine stop_slice ?_ | refine stop_range ?_ | refine stop_next ?_ | refine stop_convert ⟨_, rfl⟩ ?_ | refine stop_convertB ⟨_, _, _, rfl⟩ ?_ | refine stop_eqSlice ⟨_, _, rfl⟩ ?_)
    refine pl_start (fun W => W.cell? ⟨b, 0, none⟩ = some (.int .i64 t) ∧ Chg No w3 W) (by kernel_rfl) (by kernel_rfl) ⟨a0, (Chg.refl No w3).drew⟩ ?_
    ((refine pl_yes (i := 0) (oi := { dst := some 22, op := .move (.tmp 0), type := 65, pos := "register.go:87", after := #[], guard := none }) (v := ?_) rfl (by kernel_rfl) (by kernel_rfl) rfl ?_ ?_); rotate_left; focus (intro W hW; (try dsimp only at hW); go_split_ands; go_simp; (try (simp (disch := omega) only [IntWalk.i64_in]; (try go_simp))); (try (split; (next => omega); (try go_simp))); try rfl; done))
    try simp only [Act.put, List.setIfInBounds_toArray, List.set_cons_zero, List.set_cons_succ]
    ((refine pl_yes (i := 1) (oi := { dst := some 23, op := .fieldAddr 68 (.tmp 4) 0, type := 0, pos := "register.go:87", after := #[], guard := none }) (v := ?_) rfl (by kernel_rfl) (by kernel_rfl) rfl ?_ ?_); rotate_left; focus (intro W hW; (try dsimp only at hW); go_split_ands; go_simp; (try (simp (disch := omega) only [IntWalk.i64_in]; (try go_simp))); (try (split; (next => omega); (try go_simp))); try rfl; done))
    try simp only [Act.put, List.setIfInBounds_toArray, List.set_cons_zero, List.set_cons_succ]
    ((refine pl_yes (i := 2) (oi := { dst := some 24, op := .load 3 (.tmp 23), type := 3, pos := "register.go:87", after := #[{ on := 1, ground := .data }], guard := none }) (v := ?_) rfl (by kernel_rfl) (by kernel_rfl) rfl ?_ ?_); rotate_left; focus (intro W hW; (try dsimp only at hW); go_split_ands; go_simp; (try (simp (disch := omega) only [IntWalk.i64_in]; (try go_simp))); (try (split; (next => omega); (try go_simp))); try rfl; done))
    try simp only [Act.put, List.setIfInBounds_toArray, List.set_cons_zero, List.set_cons_succ]
    ((refine pl_yes (i := 3) (oi := { dst := some 25, op := .binOp .sub 3 (.tmp 24) (.const (.int .i64 1)) 3, type := 3, pos := "register.go:87", after := #[{ on := 2, ground := .data }], guard := none }) (v := ?_) rfl (by kernel_rfl) (by kernel_rfl) rfl ?_ ?_); rotate_left; focus (intro W hW; (try dsimp only at hW); go_split_ands; go_simp; (try (simp (disch := omega) only [IntWalk.i64_in]; (try go_simp))); (try (split; (next => omega); (try go_simp))); try rfl; done))
    try simp only [Act.put, List.setIfInBounds_toArray, List.set_cons_zero, List.set_cons_succ]
    ((refine pl_yes (i := 5) (oi := { dst := some 27, op := .move (.tmp 0), type := 65, pos := "register.go:87", after := #[], guard := none }) (v := ?_) rfl (by kernel_rfl) (by kernel_rfl) rfl ?_ ?_); rotate_left; focus (intro W hW; (try dsimp only at hW); go_split_ands; go_simp; (try (simp (disch := omega) only [IntWalk.i64_in]; (try go_simp))); (try (split; (next => omega); (try go_simp))); try rfl; done))
    try simp only [Act.put, List.setIfInBounds_toArray, List.set_cons_zero, List.set_cons_succ]
    ((refine pl_yes (i := 6) (oi := { dst := some 28, op := .fieldAddr 68 (.tmp 4) 0, type := 0, pos := "register.go:87", after := #[], guard := none }) (v := ?_) rfl (by kernel_rfl) (by kernel_rfl) rfl ?_ ?_); rotate_left; focus (intro W hW; (try dsimp only at hW); go_split_ands; go_simp; (try (simp (disch := omega) only [IntWalk.i64_in]; (try go_simp))); (try (split; (next => omega); (try go_simp))); try rfl; done))
    try simp only [Act.put, List.setIfInBounds_toArray, List.set_cons_zero, List.set_cons_succ]
    ((refine pl_yes (i := 7) (oi := { dst := some 29, op := .load 3 (.tmp 28), type := 3, pos := "register.go:87", after := #[{ on := 6, ground := .data }], guard := none }) (v := ?_) rfl (by kernel_rfl) (by kernel_rfl) rfl ?_ ?_); rotate_left; focus (intro W hW; (try dsimp only at hW); go_split_ands; go_simp; (try (simp (disch := omega) only [IntWalk.i64_in]; (try go_simp))); (try (split; (next => omega); (try go_simp))); try rfl; done))
    try simp only [Act.put, List.setIfInBounds_toArray, List.set_cons_zero, List.set_cons_succ]
    refine pl_call (i := 4) (oi := { dst := some 26, op := .call { callee := .value (.func 69), args := #[.tmp 22, .tmp 25], argTypes := #[65, 3] }, type := 139, pos := "register.go:87", after := #[{ on := 0, ground := .data }, { on := 3, ground := .data }], guard := none }) (.pointer (atV g ao)) rfl (by kernel_rfl) (by kernel_rfl) rfl (by exact (fun W hW => (Ha1.out W (cw3.trans hW.2)).mono fun e w' h => ⟨h.1, h.2.cell hW.1 (not_no _), hW.2.trans h.2⟩)) (fun W => by kernel_rfl) ?_
    try simp only [Act.put, List.setIfInBounds_toArray, List.set_cons_zero, List.set_cons_succ]
    refine pl_call (i := 8) (oi := { dst := some 30, op := .call { callee := .value (.func 69), args := #[.tmp 27, .tmp 29], argTypes := #[65, 3] }, type := 139, pos := "register.go:87", after := #[{ on := 5, ground := .data }, { on := 7, ground := .data }, { on := 4, ground := .chain }], guard := none }) (.pointer (atV g oo)) rfl (by kernel_rfl) (by kernel_rfl) rfl (by exact (fun W hW => (Ha2.out W (cw3.trans hW.2)).mono fun e w' h => ⟨h.1, h.2.cell hW.1 (not_no _), hW.2.trans h.2⟩)) (fun W => by kernel_rfl) ?_
    try simp only [Act.put, List.setIfInBounds_toArray, List.set_cons_zero, List.set_cons_succ]
    ((refine pl_yes (i := 9) (oi := { dst := some 7, op := .assign (.tmp 26), type := 139, pos := "register.go:87", after := #[{ on := 4, ground := .data }, { on := 8, ground := .chain }, { on := 0, ground := .phase }, { on := 1, ground := .phase }, { on := 2, ground := .phase }, { on := 3, ground := .phase }, { on := 4, ground := .phase }, { on := 5, ground := .textOnly .lateStores }, { on := 6, ground := .textOnly .lateStores }, { on := 7, ground := .textOnly .lateStores }, { on := 8, ground := .textOnly .lateStoresUnsure }], guard := none }) (v := ?_) rfl (by kernel_rfl) (by kernel_rfl) rfl ?_ ?_); rotate_left; focus (intro W hW; (try dsimp only at hW); go_split_ands; go_simp; (try (simp (disch := omega) only [IntWalk.i64_in]; (try go_simp))); (try (split; (next => omega); (try go_simp))); try rfl; done))
    try simp only [Act.put, List.setIfInBounds_toArray, List.set_cons_zero, List.set_cons_succ]
    ((refine pl_yes (i := 10) (oi := { dst := some 8, op := .assign (.tmp 30), type := 139, pos := "register.go:87", after := #[{ on := 8, ground := .data }, { on := 9, ground := .chain }, { on := 0, ground := .phase }, { on := 1, ground := .phase }, { on := 2, ground := .phase }, { on := 3, ground := .phase }, { on := 4, ground := .phase }, { on := 5, ground := .phase }, { on := 6, ground := .phase }, { on := 7, ground := .phase }, { on := 8, ground := .phase }, { on := 9, ground := .phase }], guard := none }) (v := ?_) rfl (by kernel_rfl) (by kernel_rfl) rfl ?_ ?_); rotate_left; focus (intro W hW; (try dsimp only at hW); go_split_ands; go_simp; (try (simp (disch := omega) only [IntWalk.i64_in]; (try go_simp))); (try (split; (next => omega); (try go_simp))); try rfl; done))
    try simp only [Act.put, List.setIfInBounds_toArray, List.set_cons_zero, List.set_cons_succ]
    refine pl_done (by kernel_rfl)  ?_
    rintro w4 ⟨_, hc4⟩
    replace a0 := hc4.cell a0 (not_no _)
    replace a1 := hc4.cell a1 (not_no _)
    replace a2 := hc4.cell a2 (not_no _)
    have cw4 := cw3.trans hc4
    clear cw3 hc4
    rcases oo with _ | j
    · rcases ao with _ | i
      · simp only [atV, Option.map_none] at *
        go_wp2_with (with_reducible first | refine stop_append ?_ | refine stop_copy ?_ | refine stop_make ?_ | refine stop_lookup ?_ | refine stop_update ?_ | refine stop_slice ?_ | refine stop_range ?_ | refine stop_next ?_ | refine stop_convert ⟨_, rfl⟩ ?_ | refine stop_convertB ⟨_, _, _, rfl⟩ ?_ | refine stop_eqSlice ⟨_, _, rfl⟩ ?_)
        go_ret
        rw [HF.out]
        exact ⟨rfl, HI.out _ cw4, HregX.out _ cw4⟩
      · obtain ⟨hli, -⟩ := Ha1F.out i rfl
        have Hen := Lib.hid (fun W (hW : Chg No w4 W) => regents_any (.slice At0 l.length ct) l W (Ht.out W (cw4.trans hW)) Hbt.out.1 Hbt.out.2)
        simp only [atV, Option.map_none, Option.map_some] at *
        go_wp2_with (with_reducible first | refine stop_append ?_ | refine stop_copy ?_ | refine stop_make ?_ | refine stop_lookup ?_ | refine stop_update ?_ | refine stop_slice ?_ | refine stop_range ?_ | refine stop_next ?_ | refine stop_convert ⟨_, rfl⟩ ?_ | refine stop_convertB ⟨_, _, _, rfl⟩ ?_ | refine stop_eqSlice ⟨_, _, rfl⟩ ?_)
        refine (Hen.out _ (Chg.refl _ _)).mono ?_
        rintro e w5 ⟨v5, rfl, hc5, hsn⟩
        obtain ⟨An, cn, rfl⟩ := hsn.slice
        replace a0 := hc5.cell a0 (not_no _)
        replace a1 := hc5.cell a1 (not_no _)
        replace a2 := hc5.cell a2 (not_no _)
        have cw5 := cw4.trans hc5
        have hReg5 := Hreg.out _ cw5
        have hz4 := cw4.size
        obtain ⟨_, _, vt2, -, -, -, m3, m4, -, -, -⟩ := rg_get hReg5 (cw5.cell hc (not_no _)) i hli
        obtain ⟨hR6, f3, f4⟩ := reg_over (HregX.out _ cw5) (cw5.cell hc (not_no _)) i hli An l.length cn l (hsn.weak (fun k _ hk => by
          simp only [Lt]
          rcases hk with (hk | hk) | hk
          · have := HF0.out k hk; omega
          · simp only [At] at hk; omega
          · simp only [At] at hk; omega))
        have c56 : Chg (At g) w5 (((w5.setCell ⟨g, i * 5 + 3, none⟩ (.slice An l.length cn)).setCell ⟨g, i * 5 + 4, none⟩ (.bool true))) := (chg_set _).trans (chg_set _)
        obtain ⟨r1, hr1⟩ : ∃ r, r = rows.set i (rows[i].1, rows[i].2.1, rows[i].2.2.1, l, true) := ⟨_, rfl⟩
        have HF2 := Lib.hid (show R = (0, r1 ++ [(t, q, s, [], false)]) by rw [HF.out, hr1, ← rowA_get rows i hli]; rfl)
        have Hl1 := Lib.hid (show r1.length = rows.length by rw [hr1]; simp)
        have hn64 := Hi.out.2.1
        rw [← hr1] at hR6
        obtain ⟨v6, o6, -, own6, hob⟩ := hR6
        have e6 := cell_obj (i := 0) o6 rfl
        have hcp := c56.cell (cw5.cell hc (not_no _)) (fun h : p = g => hgp h.symm)
        rw [hcp] at e6
        obtain rfl := Option.some.inj e6
        have Hown6 := Lib.hid own6
        have hbg : ¬ b = g := by have := Hb.out; omega
        replace a0 := c56.cell a0 hbg
        replace a1 := c56.cell a1 hbg
        replace a2 := c56.cell a2 hbg
        have cw6 : Chg (Ge B) w (((w5.setCell ⟨g, i * 5 + 3, none⟩ (.slice An l.length cn)).setCell ⟨g, i * 5 + 4, none⟩ (.bool true))) := cw5.of_no.trans (c56.weak (fun k _ hk => by simp only [At] at hk; simp only [Ge]; omega))
        have cv6 : Chg (RegF w p) w (((w5.setCell ⟨g, i * 5 + 3, none⟩ (.slice An l.length cn)).setCell ⟨g, i * 5 + 4, none⟩ (.bool true))) := cw5.of_no.trans (c56.weak (fun k _ hk => (regF_iff hc k).2 (.inr hk)))
        have hz6 : w5.heap.size ≤ (((w5.setCell ⟨g, i * 5 + 3, none⟩ (.slice An l.length cn)).setCell ⟨g, i * 5 + 4, none⟩ (.bool true))).heap.size := c56.size
        clear own6 hob hcp hsn hReg5 hr1 c56
        go_wp2_with (with_reducible first | refine stop_append ?_ | refine stop_copy ?_ | refine stop_make ?_ | refine stop_lookup ?_ | refine stop_update ?_ | refine stop_slice ?_ | refine stop_range ?_ | refine stop_next ?_ | refine stop_convert ⟨_, rfl⟩ ?_ | refine stop_convertB ⟨_, _, _, rfl⟩ ?_ | refine stop_eqSlice ⟨_, _, rfl⟩ ?_)
        clear m3 m4 f3 f4
        generalize ((w5.setCell ⟨g, i * 5 + 3, none⟩ (.slice An l.length cn)).setCell ⟨g, i * 5 + 4, none⟩ (.bool true)) = w6 at *
        have Ho := Lib.hid (fun W (hW : Chg No w6 W) => own_any t (.slice Aq q.length cq) (.slice As s.length cs) (.slice none 0 0) false q s [] W (HqB.out W (cw6.trans hW.of_no)).no (HsB.out W (cw6.trans hW.of_no)).no (Sl.nil _ _ _ _) (by omega) (by omega) (fun x hx => by have := Hh3.out x hx; omega) (by simp) (fun _ h => by cases h))
        unfold rowV at Ho
        have hz5 := cw5.size
        have HS := Lib.hid (show ∀ W, Chg No w6 W → (fun W => W.cell? ⟨p, 0, none⟩ = some (.slice (some ⟨g, 0, none⟩) rows.length c) ∧ W.cell? ⟨b, 0, none⟩ = some (.int .i64 t) ∧ W.cell? ⟨b, 1, none⟩ = some (.slice Aq q.length cq) ∧ W.cell? ⟨b, 2, none⟩ = some (.slice As s.length cs)) W from fun W hW => ⟨cell_obj (hW.obj o6 (not_no _)) rfl, hW.cell a0 (not_no _), hW.cell a1 (not_no _), hW.cell a2 (not_no _)⟩)
        have cd := (Chg.refl No w6).drew
        refine rt_start (fun W => W.cell? ⟨p, 0, none⟩ = some (.slice (some ⟨g, 0, none⟩) rows.length c) ∧ W.cell? ⟨b, 0, none⟩ = some (.int .i64 t) ∧ W.cell? ⟨b, 1, none⟩ = some (.slice Aq q.length cq) ∧ W.cell? ⟨b, 2, none⟩ = some (.slice As s.length cs)) (by kernel_rfl) ?_
        ((refine rt_yes (i := 0) (oi := { dst := some 65, op := .move (.tmp 0), type := 65, pos := "register.go:98", after := #[], guard := none }) (v := ?_) rfl (by kernel_rfl) (by kernel_rfl) (by kernel_rfl) (fun _ _ _ h => h) rfl ?_ ?_); rotate_left; focus (intro W hW; (try dsimp only at hW); go_split_ands; go_simp; (try (simp (disch := omega) only [IntWalk.i64_in]; (try go_simp))); (try (split; (next => omega); (try go_simp))); try rfl; done))
        try simp only [Act.put, List.setIfInBounds_toArray, List.set_cons_zero, List.set_cons_succ]
        ((refine rt_yes (i := 1) (oi := { dst := some 66, op := .move (.tmp 0), type := 65, pos := "register.go:98", after := #[], guard := none }) (v := ?_) rfl (by kernel_rfl) (by kernel_rfl) (by kernel_rfl) (fun _ _ _ h => h) rfl ?_ ?_); rotate_left; focus (intro W hW; (try dsimp only at hW); go_split_ands; go_simp; (try (simp (disch := omega) only [IntWalk.i64_in]; (try go_simp))); (try (split; (next => omega); (try go_simp))); try rfl; done))
        try simp only [Act.put, List.setIfInBounds_toArray, List.set_cons_zero, List.set_cons_succ]
        ((refine rt_yes (i := 2) (oi := { dst := some 67, op := .nilCheck (.tmp 66), type := 0, pos := "register.go:98", after := #[{ on := 1, ground := .data }], guard := none }) (v := ?_) rfl (by kernel_rfl) (by kernel_rfl) (by kernel_rfl) (fun _ _ _ h => h) rfl ?_ ?_); rotate_left; focus (intro W hW; (try dsimp only at hW); go_split_ands; go_simp; (try (simp (disch := omega) only [IntWalk.i64_in]; (try go_simp))); (try (split; (next => omega); (try go_simp))); try rfl; done))
        try simp only [Act.put, List.setIfInBounds_toArray, List.set_cons_zero, List.set_cons_succ]
        ((refine rt_yes (i := 3) (oi := { dst := some 68, op := .fieldAddr 137 (.tmp 67) 0, type := 0, pos := "register.go:98", after := #[{ on := 2, ground := .data }], guard := none }) (v := ?_) rfl (by kernel_rfl) (by kernel_rfl) (by kernel_rfl) (fun _ _ _ h => h) rfl ?_ ?_); rotate_left; focus (intro W hW; (try dsimp only at hW); go_split_ands; go_simp; (try (simp (disch := omega) only [IntWalk.i64_in]; (try go_simp))); (try (split; (next => omega); (try go_simp))); try rfl; done))
        try simp only [Act.put, List.setIfInBounds_toArray, List.set_cons_zero, List.set_cons_succ]
        ((refine rt_yes (i := 4) (oi := { dst := some 69, op := .load 135 (.tmp 68), type := 135, pos := "register.go:98", after := #[{ on := 3, ground := .data }], guard := none }) (v := ?_) rfl (by kernel_rfl) (by kernel_rfl) (by kernel_rfl) (fun _ _ _ h => h) rfl ?_ ?_); rotate_left; focus (intro W hW; (try dsimp only at hW); go_split_ands; go_simp; (try (simp (disch := omega) only [IntWalk.i64_in]; (try go_simp))); (try (split; (next => omega); (try go_simp))); try rfl; done))
        try simp only [Act.put, List.setIfInBounds_toArray, List.set_cons_zero, List.set_cons_succ]
        ((refine rt_yes (i := 5) (oi := { dst := some 70, op := .load 68 (.tmp 4), type := 68, pos := "register.go:98", after := #[], guard := none }) (v := ?_) rfl (by kernel_rfl) (by kernel_rfl) (by kernel_rfl) (fun _ _ _ h => h) rfl ?_ ?_); rotate_left; focus (intro W hW; (try dsimp only at hW); go_split_ands; go_simp; (try (simp (disch := omega) only [IntWalk.i64_in]; (try go_simp))); (try (split; (next => omega); (try go_simp))); try rfl; done))
        try simp only [Act.put, List.setIfInBounds_toArray, List.set_cons_zero, List.set_cons_succ]
        ((refine rt_yes (i := 6) (oi := { dst := some 71, op := .build 88 #[(0, .tmp 70)], type := 88, pos := "register.go:98", after := #[{ on := 5, ground := .data }], guard := none }) (v := ?_) rfl (by kernel_rfl) (by kernel_rfl) (by kernel_rfl) (fun _ _ _ h => h) rfl ?_ ?_); rotate_left; focus (intro W hW; (try dsimp only at hW); go_split_ands; go_simp; (try (simp (disch := omega) only [IntWalk.i64_in]; (try go_simp))); (try (split; (next => omega); (try go_simp))); try rfl; done))
        try simp only [Act.put, List.setIfInBounds_toArray, List.set_cons_zero, List.set_cons_succ]
        refine rt_k (fun W => W.cell? ⟨p, 0, none⟩ = some (.slice (some ⟨g, 0, none⟩) rows.length c) ∧ W.cell? ⟨b, 0, none⟩ = some (.int .i64 t) ∧ W.cell? ⟨b, 1, none⟩ = some (.slice Aq q.length cq) ∧ W.cell? ⟨b, 2, none⟩ = some (.slice As s.length cs)) (i := 7) (oi := { dst := some 72, op := .call { callee := .value (.func 67), args := #[.tmp 71], argTypes := #[88] }, type := 88, pos := "register.go:98", after := #[{ on := 6, ground := .data }], guard := none }) (by kernel_rfl) (HS.out _ cd) (fun _ h => h) rfl (by rfl) (fun K hK => ?_)
        go_simp
        refine (Ho.out _ cd).mono ?_
        rintro e w7 ⟨vq7, vs7, vt7, rfl, hc7, hq7, hs7, ht7⟩
        obtain ⟨Bq, dq, rfl⟩ := hq7.slice
        obtain ⟨Bs, ds, rfl⟩ := hs7.slice
        obtain ⟨Bt, dt, rfl⟩ := ht7.slice
        simp only [List.length_nil]
        have cd7 := cd.trans hc7
        refine hK _ _ ?_
        clear hK K
        try simp only [Act.put, List.setIfInBounds_toArray, List.set_cons_zero, List.set_cons_succ]
        refine rt_k (fun W => W.cell? ⟨p, 0, none⟩ = some (.slice (some ⟨g, 0, none⟩) rows.length c) ∧ W.cell? ⟨b, 0, none⟩ = some (.int .i64 t) ∧ W.cell? ⟨b, 1, none⟩ = some (.slice Aq q.length cq) ∧ W.cell? ⟨b, 2, none⟩ = some (.slice As s.length cs)) (i := 8) (oi := { dst := some 73, op := .buildSlice 135 1 #[(0, .tmp 72)], type := 135, pos := "register.go:98", after := #[{ on := 7, ground := .data }], guard := none }) (by kernel_rfl) (HS.out _ cd7) (fun _ h => h) rfl (by rfl) (fun K hK => ?_)
        go_simp
        refine hK _ _ ?_
        clear hK K
        try simp only [Act.put, List.setIfInBounds_toArray, List.set_cons_zero, List.set_cons_succ]
        have hdr : w6.drew.heap.size = w6.heap.size := rfl
        have hwk : ∀ k, k < w7.heap.size → Or (Or F (At p)) (OB (.slice (some ⟨g, 0, none⟩) rows.length c)) k → Lt w6.drew.heap.size k := fun k _ hk => by
          simp only [Lt]
          rcases hk with (hk | hk) | hk
          · have := HF0.out k hk; omega
          · simp only [At] at hk; omega
          · simp only [OB, Value.ownBlock, Option.some.injEq] at hk; omega
        have hlit : Sl (Or (Or F (At p)) (OB (.slice (some ⟨g, 0, none⟩) rows.length c))) (w7.alloc (.cells #[.int .i64 t, .slice Bq q.length dq, .slice Bs s.length ds, .slice Bt 0 dt, .bool false] 88)) (.slice (some ⟨w7.heap.size, 0, none⟩) 1 1) [((t, q, s, [], false) : Rw)] :=
          Sl.lit1 rfl (rw_mk (t, q, s, [], false) (hq7.weak hwk) (hs7.weak hwk) (ht7.weak hwk)) (fun hk => by
            have := cd7.size
            rcases hk with (hk | hk) | hk
            · have := HF0.out _ hk; omega
            · simp only [At] at hk; omega
            · simp only [OB, Value.ownBlock, Option.some.injEq] at hk; omega)
        have cd8 := cd7.alloc (.cells #[.int .i64 t, .slice Bq q.length dq, .slice Bs s.length ds, .slice Bt 0 dt, .bool false] 88)
        refine rt_append_sl (α := Rw) (F := Or F (At p)) (G := Or (Or F (At p)) (OB (.slice (some ⟨g, 0, none⟩) rows.length c))) (fun W => W.cell? ⟨p, 0, none⟩ = some (.slice (some ⟨g, 0, none⟩) rows.length c) ∧ W.cell? ⟨b, 0, none⟩ = some (.int .i64 t) ∧ W.cell? ⟨b, 1, none⟩ = some (.slice Aq q.length cq) ∧ W.cell? ⟨b, 2, none⟩ = some (.slice As s.length cs)) (i := 9) (by kernel_rfl) (HS.out _ cd8) (fun _ h => h) rfl rfl Try.underlying135 info_rw rfl (Hown6.out.keep cd8 (fun _ _ f => f.elim) (fun _ _ f => f)) rfl rfl hlit (fun i _ hi => hi) (by have := Hl1.out; simp; omega) (by have := Hl1.out; simp; omega) (by have := cd8.size; omega) ?_
        intro v9 w9 hown9 hg9
        have hpOB : ¬ OB (.slice (some ⟨g, 0, none⟩) rows.length c) p := fun h => by simp only [OB, Value.ownBlock, Option.some.injEq] at h; omega
        have hbOB : ¬ OB (.slice (some ⟨g, 0, none⟩) rows.length c) b := fun h => by simp only [OB, Value.ownBlock, Option.some.injEq] at h; omega
        have o9 := hg9.chg.obj (cd8.obj o6 (not_no _)) hpOB
        have z9 := cell_obj (i := 0) o9 rfl
        have f9 := free_obj (i := 0) o9
        have b0 := hg9.chg.cell (cd8.cell a0 (not_no _)) hbOB
        have b1 := hg9.chg.cell (cd8.cell a1 (not_no _)) hbOB
        have b2 := hg9.chg.cell (cd8.cell a2 (not_no _)) hbOB
        have cw9 : Chg (RegF w p) w w9 := (cv6.trans cd8.of_no).grew hg9 (fun k hk => by simp only [Value.ownBlock, Option.some.injEq] at hk; exact .inl ((regF_iff hc k).2 (.inr hk.symm)))
        obtain ⟨A9, c9, e9⟩ := hown9.slice
        subst e9
        have hob9 : ∀ k, (Value.slice A9 (r1 ++ [((t, q, s, [], false) : Rw)]).length c9).ownBlock = some k → k ≠ p := fun k hk => by
          have := cd8.size
          rcases hg9.blk k hk with h | h
          · simp only [Value.ownBlock, Option.some.injEq] at h; omega
          · omega
        have Hfn := Lib.hid (show ∀ k, (Value.slice A9 (r1 ++ [((t, q, s, [], false) : Rw)]).length c9).ownBlock = some k → RegF w p k ∨ w.heap.size ≤ k from fun k hk => by
          have := cd8.size
          rcases hg9.blk k hk with h | h
          · simp only [Value.ownBlock, Option.some.injEq] at h; exact .inl ((regF_iff hc k).2 (.inr h.symm))
          · exact .inr (by omega))
        have Hown9 := Lib.hid hown9
        have Hob9 := Lib.hid hob9
        have Ho9 := Lib.hid o9
        generalize hn9 : (r1 ++ [((t, q, s, [], false) : Rw)]).length = n9 at *
        have Hn9 := Lib.hid hn9
        clear hown9 hob9 o9 hlit hwk hg9 hn9 hq7 hs7 ht7
        try simp only [Act.put, List.setIfInBounds_toArray, List.set_cons_zero, List.set_cons_succ]
        ((refine rt_yes (i := 10) (oi := { dst := some 75, op := .nilCheck (.tmp 65), type := 0, pos := "register.go:98", after := #[{ on := 0, ground := .data }, { on := 0, ground := .phase }, { on := 1, ground := .phase }, { on := 2, ground := .phase }, { on := 3, ground := .phase }, { on := 4, ground := .phase }, { on := 5, ground := .phase }, { on := 6, ground := .phase }, { on := 7, ground := .phase }, { on := 8, ground := .phase }, { on := 9, ground := .phase }], guard := none }) (v := ?_) rfl (by kernel_rfl) (by kernel_rfl) (by kernel_rfl) (fun _ _ _ h => h) rfl ?_ ?_); rotate_left; focus (intro W hW; (try dsimp only at hW); go_split_ands; go_simp; (try (simp (disch := omega) only [IntWalk.i64_in]; (try go_simp))); (try (split; (next => omega); (try go_simp))); try rfl; done))
        try simp only [Act.put, List.setIfInBounds_toArray, List.set_cons_zero, List.set_cons_succ]
        ((refine rt_yes (i := 11) (oi := { dst := some 76, op := .fieldAddr 137 (.tmp 75) 0, type := 0, pos := "register.go:98", after := #[{ on := 10, ground := .data }, { on := 0, ground := .phase }, { on := 1, ground := .phase }, { on := 2, ground := .phase }, { on := 3, ground := .phase }, { on := 4, ground := .phase }, { on := 5, ground := .phase }, { on := 6, ground := .phase }, { on := 7, ground := .phase }, { on := 8, ground := .phase }, { on := 9, ground := .phase }], guard := none }) (v := ?_) rfl (by kernel_rfl) (by kernel_rfl) (by kernel_rfl) (fun _ _ _ h => h) rfl ?_ ?_); rotate_left; focus (intro W hW; (try dsimp only at hW); go_split_ands; go_simp; (try (simp (disch := omega) only [IntWalk.i64_in]; (try go_simp))); (try (split; (next => omega); (try go_simp))); try rfl; done))
        try simp only [Act.put, List.setIfInBounds_toArray, List.set_cons_zero, List.set_cons_succ]
        refine rt_k (fun W => W.cell? ⟨p, 0, none⟩ = some (.slice (some ⟨g, 0, none⟩) rows.length c) ∧ W.cell? ⟨b, 0, none⟩ = some (.int .i64 t) ∧ W.cell? ⟨b, 1, none⟩ = some (.slice Aq q.length cq) ∧ W.cell? ⟨b, 2, none⟩ = some (.slice As s.length cs)) (i := 12) (oi := { dst := none, op := .store 135 (.tmp 76) (.tmp 74), type := 0, pos := "register.go:98", after := #[{ on := 11, ground := .data }, { on := 9, ground := .data }, { on := 9, ground := .chain }, { on := 0, ground := .phase }, { on := 1, ground := .phase }, { on := 2, ground := .phase }, { on := 3, ground := .phase }, { on := 4, ground := .phase }, { on := 5, ground := .phase }, { on := 6, ground := .phase }, { on := 7, ground := .phase }, { on := 8, ground := .phase }, { on := 9, ground := .phase }], guard := none }) (by kernel_rfl) ⟨z9, b0, b1, b2⟩ (fun _ h => h) rfl (by rfl) (fun K hK => ?_)
        go_simp
        refine hK _ _ ?_
        clear hK K
        try simp only [Act.put, List.setIfInBounds_toArray, List.set_cons_zero, List.set_cons_succ]
        refine rt_done (by kernel_rfl)  ?_
        go_wp2_with (with_reducible first | refine stop_append ?_ | refine stop_copy ?_ | refine stop_make ?_ | refine stop_lookup ?_ | refine stop_update ?_ | refine stop_slice ?_ | refine stop_range ?_ | refine stop_next ?_ | refine stop_convert ⟨_, rfl⟩ ?_ | refine stop_convertB ⟨_, _, _, rfl⟩ ?_ | refine stop_eqSlice ⟨_, _, rfl⟩ ?_)
        go_ret
        rw [HF2.out]
        have oF := obj_set (i := 0) (u := .slice A9 n9 c9) Ho9.out rfl
        refine ⟨rfl, ⟨cw9.setCell (p := ⟨p, 0, none⟩) (.inl (.inl rfl)) _, fun k hk => ?_⟩, _, obj_set Ho9.out rfl, hBp, Hown9.out.keep (chg_set _) (fun k _ hk => .inr hk) (fun k hk h => Hob9.out k hk h), Hob9.out⟩
        rcases hk with rfl | ⟨v, h1, h2⟩
        · exact .inl (.inl rfl)
        · rw [cell_obj (i := 0) oF rfl] at h1
          cases h1
          exact Hfn.out k h2
    · rcases ao with _ | i
      · simp only [atV, Option.map_none, Option.map_some] at *
        go_wp2_with (with_reducible first | refine stop_append ?_ | refine stop_copy ?_ | refine stop_make ?_ | refine stop_lookup ?_ | refine stop_update ?_ | refine stop_slice ?_ | refine stop_range ?_ | refine stop_next ?_ | refine stop_convert ⟨_, rfl⟩ ?_ | refine stop_convertB ⟨_, _, _, rfl⟩ ?_ | refine stop_eqSlice ⟨_, _, rfl⟩ ?_)
        refine pl_start (fun W => Chg No w4 W) (by kernel_rfl) (by kernel_rfl) (Chg.refl No w4).drew ?_
        ((refine pl_yes (i := 0) (oi := { dst := some 34, op := .move (.tmp 7), type := 139, pos := "register.go:90", after := #[], guard := none }) (v := ?_) rfl (by kernel_rfl) (by kernel_rfl) rfl ?_ ?_); rotate_left; focus (intro W hW; (try dsimp only at hW); go_split_ands; go_simp; (try (simp (disch := omega) only [IntWalk.i64_in]; (try go_simp))); (try (split; (next => omega); (try go_simp))); try rfl; done))
        try simp only [Act.put, List.setIfInBounds_toArray, List.set_cons_zero, List.set_cons_succ]
        ((refine pl_yes (i := 1) (oi := { dst := some 35, op := .binOp .eql 139 (.tmp 34) (.const (.pointer none)) 139, type := 4, pos := "register.go:90", after := #[{ on := 0, ground := .data }], guard := none }) (v := ?_) rfl (by kernel_rfl) (by kernel_rfl) rfl ?_ ?_); rotate_left; focus (intro W hW; (try dsimp only at hW); go_split_ands; go_simp; (try (simp (disch := omega) only [IntWalk.i64_in]; (try go_simp))); (try (split; (next => omega); (try go_simp))); try rfl; done))
        try simp only [Act.put, List.setIfInBounds_toArray, List.set_cons_zero, List.set_cons_succ]
        ((refine pl_yes (i := 2) (oi := { dst := some 36, op := .move (.tmp 35), type := 4, pos := "register.go:90", after := #[{ on := 1, ground := .data }], guard := none }) (v := ?_) rfl (by kernel_rfl) (by kernel_rfl) rfl ?_ ?_); rotate_left; focus (intro W hW; (try dsimp only at hW); go_split_ands; go_simp; (try (simp (disch := omega) only [IntWalk.i64_in]; (try go_simp))); (try (split; (next => omega); (try go_simp))); try rfl; done))
        try simp only [Act.put, List.setIfInBounds_toArray, List.set_cons_zero, List.set_cons_succ]
        first | (refine pl_no (i := 3) (oi := { dst := some 37, op := .move (.tmp 8), type := 139, pos := "register.go:90", after := #[{ on := 2, ground := .guard }], guard := some (2, false) }) rfl (by kernel_rfl) (by kernel_rfl) rfl ?_) | ((refine pl_yes (i := 3) (oi := { dst := some 37, op := .move (.tmp 8), type := 139, pos := "register.go:90", after := #[{ on := 2, ground := .guard }], guard := some (2, false) }) (v := ?_) rfl (by kernel_rfl) (by kernel_rfl) rfl ?_ ?_); rotate_left; focus (intro W hW; (try dsimp only at hW); go_split_ands; go_simp; (try (simp (disch := omega) only [IntWalk.i64_in]; (try go_simp))); (try (split; (next => omega); (try go_simp))); try rfl; done))
        try simp only [Act.put, List.setIfInBounds_toArray, List.set_cons_zero, List.set_cons_succ]
        first | (refine pl_no (i := 4) (oi := { dst := some 38, op := .nilCheck (.tmp 37), type := 0, pos := "register.go:90", after := #[{ on := 3, ground := .data }, { on := 2, ground := .guard }], guard := some (2, false) }) rfl (by kernel_rfl) (by kernel_rfl) rfl ?_) | ((refine pl_yes (i := 4) (oi := { dst := some 38, op := .nilCheck (.tmp 37), type := 0, pos := "register.go:90", after := #[{ on := 3, ground := .data }, { on := 2, ground := .guard }], guard := some (2, false) }) (v := ?_) rfl (by kernel_rfl) (by kernel_rfl) rfl ?_ ?_); rotate_left; focus (intro W hW; (try dsimp only at hW); go_split_ands; go_simp; (try (simp (disch := omega) only [IntWalk.i64_in]; (try go_simp))); (try (split; (next => omega); (try go_simp))); try rfl; done))
        try simp only [Act.put, List.setIfInBounds_toArray, List.set_cons_zero, List.set_cons_succ]
        first | (refine pl_no (i := 5) (oi := { dst := some 39, op := .fieldAddr 88 (.tmp 38) 0, type := 0, pos := "register.go:90", after := #[{ on := 4, ground := .data }, { on := 2, ground := .guard }], guard := some (2, false) }) rfl (by kernel_rfl) (by kernel_rfl) rfl ?_) | ((refine pl_yes (i := 5) (oi := { dst := some 39, op := .fieldAddr 88 (.tmp 38) 0, type := 0, pos := "register.go:90", after := #[{ on := 4, ground := .data }, { on := 2, ground := .guard }], guard := some (2, false) }) (v := ?_) rfl (by kernel_rfl) (by kernel_rfl) rfl ?_ ?_); rotate_left; focus (intro W hW; (try dsimp only at hW); go_split_ands; go_simp; (try (simp (disch := omega) only [IntWalk.i64_in]; (try go_simp))); (try (split; (next => omega); (try go_simp))); try rfl; done))
        try simp only [Act.put, List.setIfInBounds_toArray, List.set_cons_zero, List.set_cons_succ]
        first | (refine pl_no (i := 6) (oi := { dst := some 40, op := .load 68 (.tmp 39), type := 68, pos := "register.go:90", after := #[{ on := 5, ground := .data }, { on := 2, ground := .guard }], guard := some (2, false) }) rfl (by kernel_rfl) (by kernel_rfl) rfl ?_) | ((refine pl_yes (i := 6) (oi := { dst := some 40, op := .load 68 (.tmp 39), type := 68, pos := "register.go:90", after := #[{ on := 5, ground := .data }, { on := 2, ground := .guard }], guard := some (2, false) }) (v := ?_) rfl (by kernel_rfl) (by kernel_rfl) rfl ?_ ?_); rotate_left; focus (intro W hW; (try dsimp only at hW); go_split_ands; go_simp; (try (simp (disch := omega) only [IntWalk.i64_in]; (try go_simp))); (try (split; (next => omega); (try go_simp))); try rfl; done))
        try simp only [Act.put, List.setIfInBounds_toArray, List.set_cons_zero, List.set_cons_succ]
        first | (refine pl_no (i := 7) (oi := { dst := some 41, op := .load 68 (.tmp 4), type := 68, pos := "register.go:90", after := #[{ on := 2, ground := .guard }], guard := some (2, false) }) rfl (by kernel_rfl) (by kernel_rfl) rfl ?_) | ((refine pl_yes (i := 7) (oi := { dst := some 41, op := .load 68 (.tmp 4), type := 68, pos := "register.go:90", after := #[{ on := 2, ground := .guard }], guard := some (2, false) }) (v := ?_) rfl (by kernel_rfl) (by kernel_rfl) rfl ?_ ?_); rotate_left; focus (intro W hW; (try dsimp only at hW); go_split_ands; go_simp; (try (simp (disch := omega) only [IntWalk.i64_in]; (try go_simp))); (try (split; (next => omega); (try go_simp))); try rfl; done))
        try simp only [Act.put, List.setIfInBounds_toArray, List.set_cons_zero, List.set_cons_succ]
        refine pl_no (i := 8) (oi := { dst := some 42, op := .call { callee := .value (.func 44), args := #[.tmp 40, .tmp 41], argTypes := #[68, 68] }, type := 4, pos := "register.go:90", after := #[{ on := 6, ground := .data }, { on := 7, ground := .data }, { on := 2, ground := .chain }, { on := 2, ground := .guard }], guard := some (2, false) }) rfl (by kernel_rfl) (by kernel_rfl) rfl ?_
        try simp only [Act.put, List.setIfInBounds_toArray, List.set_cons_zero, List.set_cons_succ]
        first | (refine pl_no (i := 9) (oi := { dst := some 43, op := .unOp .not 4 (.tmp 42), type := 4, pos := "register.go:90", after := #[{ on := 8, ground := .data }, { on := 2, ground := .guard }], guard := some (2, false) }) rfl (by kernel_rfl) (by kernel_rfl) rfl ?_) | ((refine pl_yes (i := 9) (oi := { dst := some 43, op := .unOp .not 4 (.tmp 42), type := 4, pos := "register.go:90", after := #[{ on := 8, ground := .data }, { on := 2, ground := .guard }], guard := some (2, false) }) (v := ?_) rfl (by kernel_rfl) (by kernel_rfl) rfl ?_ ?_); rotate_left; focus (intro W hW; (try dsimp only at hW); go_split_ands; go_simp; (try (simp (disch := omega) only [IntWalk.i64_in]; (try go_simp))); (try (split; (next => omega); (try go_simp))); try rfl; done))
        try simp only [Act.put, List.setIfInBounds_toArray, List.set_cons_zero, List.set_cons_succ]
        ((refine pl_yes (i := 10) (oi := { dst := some 44, op := .pick (.tmp 36) (.const (.bool true)) (.tmp 43), type := 4, pos := "register.go:90", after := #[{ on := 2, ground := .data }, { on := 9, ground := .data }], guard := none }) (v := ?_) rfl (by kernel_rfl) (by kernel_rfl) rfl ?_ ?_); rotate_left; focus (intro W hW; (try dsimp only at hW); go_split_ands; go_simp; (try (simp (disch := omega) only [IntWalk.i64_in]; (try go_simp))); (try (split; (next => omega); (try go_simp))); try rfl; done))
        try simp only [Act.put, List.setIfInBounds_toArray, List.set_cons_zero, List.set_cons_succ]
        ((refine pl_yes (i := 11) (oi := { dst := some 45, op := .move (.tmp 44), type := 4, pos := "register.go:90", after := #[{ on := 10, ground := .data }, { on := 8, ground := .chain }], guard := none }) (v := ?_) rfl (by kernel_rfl) (by kernel_rfl) rfl ?_ ?_); rotate_left; focus (intro W hW; (try dsimp only at hW); go_split_ands; go_simp; (try (simp (disch := omega) only [IntWalk.i64_in]; (try go_simp))); (try (split; (next => omega); (try go_simp))); try rfl; done))
        try simp only [Act.put, List.setIfInBounds_toArray, List.set_cons_zero, List.set_cons_succ]
        first | (refine pl_no (i := 12) (oi := { dst := some 46, op := .move (.tmp 7), type := 139, pos := "register.go:90", after := #[{ on := 11, ground := .guard }], guard := some (11, false) }) rfl (by kernel_rfl) (by kernel_rfl) rfl ?_) | ((refine pl_yes (i := 12) (oi := { dst := some 46, op := .move (.tmp 7), type := 139, pos := "register.go:90", after := #[{ on := 11, ground := .guard }], guard := some (11, false) }) (v := ?_) rfl (by kernel_rfl) (by kernel_rfl) rfl ?_ ?_); rotate_left; focus (intro W hW; (try dsimp only at hW); go_split_ands; go_simp; (try (simp (disch := omega) only [IntWalk.i64_in]; (try go_simp))); (try (split; (next => omega); (try go_simp))); try rfl; done))
        try simp only [Act.put, List.setIfInBounds_toArray, List.set_cons_zero, List.set_cons_succ]
        first | (refine pl_no (i := 13) (oi := { dst := some 47, op := .nilCheck (.tmp 46), type := 0, pos := "register.go:90", after := #[{ on := 12, ground := .data }, { on := 11, ground := .guard }], guard := some (11, false) }) rfl (by kernel_rfl) (by kernel_rfl) rfl ?_) | ((refine pl_yes (i := 13) (oi := { dst := some 47, op := .nilCheck (.tmp 46), type := 0, pos := "register.go:90", after := #[{ on := 12, ground := .data }, { on := 11, ground := .guard }], guard := some (11, false) }) (v := ?_) rfl (by kernel_rfl) (by kernel_rfl) rfl ?_ ?_); rotate_left; focus (intro W hW; (try dsimp only at hW); go_split_ands; go_simp; (try (simp (disch := omega) only [IntWalk.i64_in]; (try go_simp))); (try (split; (next => omega); (try go_simp))); try rfl; done))
        try simp only [Act.put, List.setIfInBounds_toArray, List.set_cons_zero, List.set_cons_succ]
        first | (refine pl_no (i := 14) (oi := { dst := some 48, op := .fieldAddr 88 (.tmp 47) 1, type := 0, pos := "register.go:90", after := #[{ on := 13, ground := .data }, { on := 11, ground := .guard }], guard := some (11, false) }) rfl (by kernel_rfl) (by kernel_rfl) rfl ?_) | ((refine pl_yes (i := 14) (oi := { dst := some 48, op := .fieldAddr 88 (.tmp 47) 1, type := 0, pos := "register.go:90", after := #[{ on := 13, ground := .data }, { on := 11, ground := .guard }], guard := some (11, false) }) (v := ?_) rfl (by kernel_rfl) (by kernel_rfl) rfl ?_ ?_); rotate_left; focus (intro W hW; (try dsimp only at hW); go_split_ands; go_simp; (try (simp (disch := omega) only [IntWalk.i64_in]; (try go_simp))); (try (split; (next => omega); (try go_simp))); try rfl; done))
        try simp only [Act.put, List.setIfInBounds_toArray, List.set_cons_zero, List.set_cons_succ]
        first | (refine pl_no (i := 15) (oi := { dst := some 49, op := .load 28 (.tmp 48), type := 28, pos := "register.go:90", after := #[{ on := 14, ground := .data }, { on := 11, ground := .guard }], guard := some (11, false) }) rfl (by kernel_rfl) (by kernel_rfl) rfl ?_) | ((refine pl_yes (i := 15) (oi := { dst := some 49, op := .load 28 (.tmp 48), type := 28, pos := "register.go:90", after := #[{ on := 14, ground := .data }, { on := 11, ground := .guard }], guard := some (11, false) }) (v := ?_) rfl (by kernel_rfl) (by kernel_rfl) rfl ?_ ?_); rotate_left; focus (intro W hW; (try dsimp only at hW); go_split_ands; go_simp; (try (simp (disch := omega) only [IntWalk.i64_in]; (try go_simp))); (try (split; (next => omega); (try go_simp))); try rfl; done))
        try simp only [Act.put, List.setIfInBounds_toArray, List.set_cons_zero, List.set_cons_succ]
        first | (refine pl_no (i := 16) (oi := { dst := some 50, op := .move (.tmp 2), type := 28, pos := "register.go:90", after := #[{ on := 11, ground := .guard }], guard := some (11, false) }) rfl (by kernel_rfl) (by kernel_rfl) rfl ?_) | ((refine pl_yes (i := 16) (oi := { dst := some 50, op := .move (.tmp 2), type := 28, pos := "register.go:90", after := #[{ on := 11, ground := .guard }], guard := some (11, false) }) (v := ?_) rfl (by kernel_rfl) (by kernel_rfl) rfl ?_ ?_); rotate_left; focus (intro W hW; (try dsimp only at hW); go_split_ands; go_simp; (try (simp (disch := omega) only [IntWalk.i64_in]; (try go_simp))); (try (split; (next => omega); (try go_simp))); try rfl; done))
        try simp only [Act.put, List.setIfInBounds_toArray, List.set_cons_zero, List.set_cons_succ]
        refine pl_no (i := 17) (oi := { dst := some 51, op := .call { callee := .value (.func 70), args := #[.tmp 49, .tmp 50, .func 71], argTypes := #[28, 28, 142] }, type := 4, pos := "register.go:90", after := #[{ on := 15, ground := .data }, { on := 16, ground := .data }, { on := 11, ground := .chain }, { on := 11, ground := .guard }], guard := some (11, false) }) rfl (by kernel_rfl) (by kernel_rfl) rfl ?_
        try simp only [Act.put, List.setIfInBounds_toArray, List.set_cons_zero, List.set_cons_succ]
        first | (refine pl_no (i := 18) (oi := { dst := some 52, op := .unOp .not 4 (.tmp 51), type := 4, pos := "register.go:90", after := #[{ on := 17, ground := .data }, { on := 11, ground := .guard }], guard := some (11, false) }) rfl (by kernel_rfl) (by kernel_rfl) rfl ?_) | ((refine pl_yes (i := 18) (oi := { dst := some 52, op := .unOp .not 4 (.tmp 51), type := 4, pos := "register.go:90", after := #[{ on := 17, ground := .data }, { on := 11, ground := .guard }], guard := some (11, false) }) (v := ?_) rfl (by kernel_rfl) (by kernel_rfl) rfl ?_ ?_); rotate_left; focus (intro W hW; (try dsimp only at hW); go_split_ands; go_simp; (try (simp (disch := omega) only [IntWalk.i64_in]; (try go_simp))); (try (split; (next => omega); (try go_simp))); try rfl; done))
        try simp only [Act.put, List.setIfInBounds_toArray, List.set_cons_zero, List.set_cons_succ]
        ((refine pl_yes (i := 19) (oi := { dst := some 53, op := .pick (.tmp 45) (.const (.bool true)) (.tmp 52), type := 4, pos := "register.go:90", after := #[{ on := 11, ground := .data }, { on := 18, ground := .data }], guard := none }) (v := ?_) rfl (by kernel_rfl) (by kernel_rfl) rfl ?_ ?_); rotate_left; focus (intro W hW; (try dsimp only at hW); go_split_ands; go_simp; (try (simp (disch := omega) only [IntWalk.i64_in]; (try go_simp))); (try (split; (next => omega); (try go_simp))); try rfl; done))
        try simp only [Act.put, List.setIfInBounds_toArray, List.set_cons_zero, List.set_cons_succ]
        refine pl_done (by kernel_rfl)  ?_
        rintro w5 hc5
        have cw5 := cw4.trans hc5
        go_wp2_with (with_reducible first | refine stop_append ?_ | refine stop_copy ?_ | refine stop_make ?_ | refine stop_lookup ?_ | refine stop_update ?_ | refine stop_slice ?_ | refine stop_range ?_ | refine stop_next ?_ | refine stop_convert ⟨_, rfl⟩ ?_ | refine stop_convertB ⟨_, _, _, rfl⟩ ?_ | refine stop_eqSlice ⟨_, _, rfl⟩ ?_)
        go_ret
        rw [HF.out]
        exact ⟨rfl, HI.out _ cw5, HregX.out _ cw5⟩
      · obtain ⟨hlj, -⟩ := Ha2F.out j rfl
        obtain ⟨hli, -⟩ := Ha1F.out i rfl
        have hReg4 := Hreg.out _ cw4
        have hc4 := cw4.cell hc (not_no _)
        obtain ⟨vq1, vs1, vt1, k0, k1, k2, -, -, s1, s2, -⟩ := rg_get hReg4 hc4 j hlj
        obtain ⟨_, _, vt2, -, -, -, m3, -, -, -, s3⟩ := rg_get hReg4 hc4 i hli
        have hrj := right_small (Hi.out.2.2 j hlj).2.1
        have hbi := (Hi.out.2.2 i hli).2.2
        have HF2 := Lib.hid (show R = (if sameC rows[j].1 rows[j].2.1 rows[j].2.2.1 t q s && decide (rows[i].2.2.2.1 = l) then 0 else 140, rows) by rw [HF.out, ← rowA_get rows j hlj, ← rowA_get rows i hli]; rfl)
        have Hsm := Lib.hid (fun W (hW : Chg No w4 W) => tsame_any (Lt B) (Lt B) No No rows[j].1 t vq1 vs1 (.slice Aq q.length cq) (.slice As s.length cs) rows[j].2.1 q rows[j].2.2.1 s W (s1.keepNo hW) (s2.keepNo hW) (Hq.out W (cw4.trans hW)) (Hs.out W (cw4.trans hW))
          (by have := hrj.1; omega) (by have := hrj.2.1; omega) (fun x hx => by have := hrj.2.2 x hx; omega) (by omega) (by omega) (fun x hx => by have := Hh3.out x hx; omega))
        have Heq := Lib.hid (fun W (hW : Chg No w4 W) => eqents_any (Lt B) No vt2 (.slice At0 l.length ct) rows[i].2.2.2.1 l W (s3.keepNo hW) (Ht.out W (cw4.trans hW)) hbi.1 (by have := Hbt.out.1; omega) hbi.2 (fun x hx => by have := Hbt.out.2 x hx; omega))
        obtain ⟨Bq, dq, rfl⟩ := s1.slice
        obtain ⟨Bs, ds, rfl⟩ := s2.slice
        obtain ⟨Bt, dt, rfl⟩ := s3.slice
        unfold cfgV at *
        clear hReg4 hrj hbi s1 s2 s3 hc4
        generalize sameC rows[j].1 rows[j].2.1 rows[j].2.2.1 t q s = b1 at *
        generalize decide (rows[i].2.2.2.1 = l) = b2 at *
        generalize rows[j].1 = t2 at *
        generalize rows[j].2.1.length = n1 at *
        generalize rows[j].2.2.1.length = n2 at *
        generalize rows[i].2.2.2.1.length = n3 at *
        have HS := Lib.hid (show ∀ W, Chg No w4 W → (fun W => (W.cell? ⟨b, 0, none⟩ = some (.int .i64 t) ∧ W.cell? ⟨b, 1, none⟩ = some (.slice Aq q.length cq) ∧ W.cell? ⟨b, 2, none⟩ = some (.slice As s.length cs)) ∧ (W.cell? ⟨g, j * 5, none⟩ = some (.int .i64 t2) ∧ W.cell? ⟨g, j * 5 + 1, none⟩ = some (.slice Bq n1 dq) ∧ W.cell? ⟨g, j * 5 + 2, none⟩ = some (.slice Bs n2 ds)) ∧ W.cell? ⟨g, i * 5 + 3, none⟩ = some (.slice Bt n3 dt) ∧ Chg No w4 W) W from fun W hW => ⟨⟨hW.cell a0 (not_no _), hW.cell a1 (not_no _), hW.cell a2 (not_no _)⟩, ⟨hW.cell k0 (not_no _), hW.cell k1 (not_no _), hW.cell k2 (not_no _)⟩, hW.cell m3 (not_no _), hW⟩)
        simp only [atV, Option.map_some] at *
        go_wp2_with (with_reducible first | refine stop_append ?_ | refine stop_copy ?_ | refine stop_make ?_ | refine stop_lookup ?_ | refine stop_update ?_ | refine stop_slice ?_ | refine stop_range ?_ | refine stop_next ?_ | refine stop_convert ⟨_, rfl⟩ ?_ | refine stop_convertB ⟨_, _, _, rfl⟩ ?_ | refine stop_eqSlice ⟨_, _, rfl⟩ ?_)
        rcases b1 with _ | _
        · refine pl_start (fun W => (W.cell? ⟨b, 0, none⟩ = some (.int .i64 t) ∧ W.cell? ⟨b, 1, none⟩ = some (.slice Aq q.length cq) ∧ W.cell? ⟨b, 2, none⟩ = some (.slice As s.length cs)) ∧ (W.cell? ⟨g, j * 5, none⟩ = some (.int .i64 t2) ∧ W.cell? ⟨g, j * 5 + 1, none⟩ = some (.slice Bq n1 dq) ∧ W.cell? ⟨g, j * 5 + 2, none⟩ = some (.slice Bs n2 ds)) ∧ W.cell? ⟨g, i * 5 + 3, none⟩ = some (.slice Bt n3 dt) ∧ Chg No w4 W) (by kernel_rfl) (by kernel_rfl) (HS.out _ (Chg.refl No w4).drew) ?_
          ((refine pl_yes (i := 0) (oi := { dst := some 34, op := .move (.tmp 7), type := 139, pos := "register.go:90", after := #[], guard := none }) (v := ?_) rfl (by kernel_rfl) (by kernel_rfl) rfl ?_ ?_); rotate_left; focus (intro W hW; (try dsimp only at hW); go_split_ands; go_simp; (try (simp (disch := omega) only [IntWalk.i64_in]; (try go_simp))); (try (split; (next => omega); (try go_simp))); try rfl; done))
          try simp only [Act.put, List.setIfInBounds_toArray, List.set_cons_zero, List.set_cons_succ]
          ((refine pl_yes (i := 1) (oi := { dst := some 35, op := .binOp .eql 139 (.tmp 34) (.const (.pointer none)) 139, type := 4, pos := "register.go:90", after := #[{ on := 0, ground := .data }], guard := none }) (v := ?_) rfl (by kernel_rfl) (by kernel_rfl) rfl ?_ ?_); rotate_left; focus (intro W hW; (try dsimp only at hW); go_split_ands; go_simp; (try (simp (disch := omega) only [IntWalk.i64_in]; (try go_simp))); (try (split; (next => omega); (try go_simp))); try rfl; done))
          try simp only [Act.put, List.setIfInBounds_toArray, List.set_cons_zero, List.set_cons_succ]
          ((refine pl_yes (i := 2) (oi := { dst := some 36, op := .move (.tmp 35), type := 4, pos := "register.go:90", after := #[{ on := 1, ground := .data }], guard := none }) (v := ?_) rfl (by kernel_rfl) (by kernel_rfl) rfl ?_ ?_); rotate_left; focus (intro W hW; (try dsimp only at hW); go_split_ands; go_simp; (try (simp (disch := omega) only [IntWalk.i64_in]; (try go_simp))); (try (split; (next => omega); (try go_simp))); try rfl; done))
          try simp only [Act.put, List.setIfInBounds_toArray, List.set_cons_zero, List.set_cons_succ]
          first | (refine pl_no (i := 3) (oi := { dst := some 37, op := .move (.tmp 8), type := 139, pos := "register.go:90", after := #[{ on := 2, ground := .guard }], guard := some (2, false) }) rfl (by kernel_rfl) (by kernel_rfl) rfl ?_) | ((refine pl_yes (i := 3) (oi := { dst := some 37, op := .move (.tmp 8), type := 139, pos := "register.go:90", after := #[{ on := 2, ground := .guard }], guard := some (2, false) }) (v := ?_) rfl (by kernel_rfl) (by kernel_rfl) rfl ?_ ?_); rotate_left; focus (intro W hW; (try dsimp only at hW); go_split_ands; go_simp; (try (simp (disch := omega) only [IntWalk.i64_in]; (try go_simp))); (try (split; (next => omega); (try go_simp))); try rfl; done))
          try simp only [Act.put, List.setIfInBounds_toArray, List.set_cons_zero, List.set_cons_succ]
          first | (refine pl_no (i := 4) (oi := { dst := some 38, op := .nilCheck (.tmp 37), type := 0, pos := "register.go:90", after := #[{ on := 3, ground := .data }, { on := 2, ground := .guard }], guard := some (2, false) }) rfl (by kernel_rfl) (by kernel_rfl) rfl ?_) | ((refine pl_yes (i := 4) (oi := { dst := some 38, op := .nilCheck (.tmp 37), type := 0, pos := "register.go:90", after := #[{ on := 3, ground := .data }, { on := 2, ground := .guard }], guard := some (2, false) }) (v := ?_) rfl (by kernel_rfl) (by kernel_rfl) rfl ?_ ?_); rotate_left; focus (intro W hW; (try dsimp only at hW); go_split_ands; go_simp; (try (simp (disch := omega) only [IntWalk.i64_in]; (try go_simp))); (try (split; (next => omega); (try go_simp))); try rfl; done))
          try simp only [Act.put, List.setIfInBounds_toArray, List.set_cons_zero, List.set_cons_succ]
          first | (refine pl_no (i := 5) (oi := { dst := some 39, op := .fieldAddr 88 (.tmp 38) 0, type := 0, pos := "register.go:90", after := #[{ on := 4, ground := .data }, { on := 2, ground := .guard }], guard := some (2, false) }) rfl (by kernel_rfl) (by kernel_rfl) rfl ?_) | ((refine pl_yes (i := 5) (oi := { dst := some 39, op := .fieldAddr 88 (.tmp 38) 0, type := 0, pos := "register.go:90", after := #[{ on := 4, ground := .data }, { on := 2, ground := .guard }], guard := some (2, false) }) (v := ?_) rfl (by kernel_rfl) (by kernel_rfl) rfl ?_ ?_); rotate_left; focus (intro W hW; (try dsimp only at hW); go_split_ands; go_simp; (try (simp (disch := omega) only [IntWalk.i64_in]; (try go_simp))); (try (split; (next => omega); (try go_simp))); try rfl; done))
          try simp only [Act.put, List.setIfInBounds_toArray, List.set_cons_zero, List.set_cons_succ]
          first | (refine pl_no (i := 6) (oi := { dst := some 40, op := .load 68 (.tmp 39), type := 68, pos := "register.go:90", after := #[{ on := 5, ground := .data }, { on := 2, ground := .guard }], guard := some (2, false) }) rfl (by kernel_rfl) (by kernel_rfl) rfl ?_) | ((refine pl_yes (i := 6) (oi := { dst := some 40, op := .load 68 (.tmp 39), type := 68, pos := "register.go:90", after := #[{ on := 5, ground := .data }, { on := 2, ground := .guard }], guard := some (2, false) }) (v := ?_) rfl (by kernel_rfl) (by kernel_rfl) rfl ?_ ?_); rotate_left; focus (intro W hW; (try dsimp only at hW); go_split_ands; go_simp; (try (simp (disch := omega) only [IntWalk.i64_in]; (try go_simp))); (try (split; (next => omega); (try go_simp))); try rfl; done))
          try simp only [Act.put, List.setIfInBounds_toArray, List.set_cons_zero, List.set_cons_succ]
          first | (refine pl_no (i := 7) (oi := { dst := some 41, op := .load 68 (.tmp 4), type := 68, pos := "register.go:90", after := #[{ on := 2, ground := .guard }], guard := some (2, false) }) rfl (by kernel_rfl) (by kernel_rfl) rfl ?_) | ((refine pl_yes (i := 7) (oi := { dst := some 41, op := .load 68 (.tmp 4), type := 68, pos := "register.go:90", after := #[{ on := 2, ground := .guard }], guard := some (2, false) }) (v := ?_) rfl (by kernel_rfl) (by kernel_rfl) rfl ?_ ?_); rotate_left; focus (intro W hW; (try dsimp only at hW); go_split_ands; go_simp; (try (simp (disch := omega) only [IntWalk.i64_in]; (try go_simp))); (try (split; (next => omega); (try go_simp))); try rfl; done))
          try simp only [Act.put, List.setIfInBounds_toArray, List.set_cons_zero, List.set_cons_succ]
          refine pl_call (i := 8) (oi := { dst := some 42, op := .call { callee := .value (.func 44), args := #[.tmp 40, .tmp 41], argTypes := #[68, 68] }, type := 4, pos := "register.go:90", after := #[{ on := 6, ground := .data }, { on := 7, ground := .data }, { on := 2, ground := .chain }, { on := 2, ground := .guard }], guard := some (2, false) }) (.bool false) rfl (by kernel_rfl) (by kernel_rfl) rfl (by exact (fun W hW => (Hsm.out W hW.2.2.2).mono fun e w' h => ⟨h.1, HS.out _ (hW.2.2.2.trans h.2)⟩)) (fun W => by kernel_rfl) ?_
          try simp only [Act.put, List.setIfInBounds_toArray, List.set_cons_zero, List.set_cons_succ]
          first | (refine pl_no (i := 9) (oi := { dst := some 43, op := .unOp .not 4 (.tmp 42), type := 4, pos := "register.go:90", after := #[{ on := 8, ground := .data }, { on := 2, ground := .guard }], guard := some (2, false) }) rfl (by kernel_rfl) (by kernel_rfl) rfl ?_) | ((refine pl_yes (i := 9) (oi := { dst := some 43, op := .unOp .not 4 (.tmp 42), type := 4, pos := "register.go:90", after := #[{ on := 8, ground := .data }, { on := 2, ground := .guard }], guard := some (2, false) }) (v := ?_) rfl (by kernel_rfl) (by kernel_rfl) rfl ?_ ?_); rotate_left; focus (intro W hW; (try dsimp only at hW); go_split_ands; go_simp; (try (simp (disch := omega) only [IntWalk.i64_in]; (try go_simp))); (try (split; (next => omega); (try go_simp))); try rfl; done))
          try simp only [Act.put, List.setIfInBounds_toArray, List.set_cons_zero, List.set_cons_succ]
          ((refine pl_yes (i := 10) (oi := { dst := some 44, op := .pick (.tmp 36) (.const (.bool true)) (.tmp 43), type := 4, pos := "register.go:90", after := #[{ on := 2, ground := .data }, { on := 9, ground := .data }], guard := none }) (v := ?_) rfl (by kernel_rfl) (by kernel_rfl) rfl ?_ ?_); rotate_left; focus (intro W hW; (try dsimp only at hW); go_split_ands; go_simp; (try (simp (disch := omega) only [IntWalk.i64_in]; (try go_simp))); (try (split; (next => omega); (try go_simp))); try rfl; done))
          try simp only [Act.put, List.setIfInBounds_toArray, List.set_cons_zero, List.set_cons_succ]
          ((refine pl_yes (i := 11) (oi := { dst := some 45, op := .move (.tmp 44), type := 4, pos := "register.go:90", after := #[{ on := 10, ground := .data }, { on := 8, ground := .chain }], guard := none }) (v := ?_) rfl (by kernel_rfl) (by kernel_rfl) rfl ?_ ?_); rotate_left; focus (intro W hW; (try dsimp only at hW); go_split_ands; go_simp; (try (simp (disch := omega) only [IntWalk.i64_in]; (try go_simp))); (try (split; (next => omega); (try go_simp))); try rfl; done))
          try simp only [Act.put, List.setIfInBounds_toArray, List.set_cons_zero, List.set_cons_succ]
          first | (refine pl_no (i := 12) (oi := { dst := some 46, op := .move (.tmp 7), type := 139, pos := "register.go:90", after := #[{ on := 11, ground := .guard }], guard := some (11, false) }) rfl (by kernel_rfl) (by kernel_rfl) rfl ?_) | ((refine pl_yes (i := 12) (oi := { dst := some 46, op := .move (.tmp 7), type := 139, pos := "register.go:90", after := #[{ on := 11, ground := .guard }], guard := some (11, false) }) (v := ?_) rfl (by kernel_rfl) (by kernel_rfl) rfl ?_ ?_); rotate_left; focus (intro W hW; (try dsimp only at hW); go_split_ands; go_simp; (try (simp (disch := omega) only [IntWalk.i64_in]; (try go_simp))); (try (split; (next => omega); (try go_simp))); try rfl; done))
          try simp only [Act.put, List.setIfInBounds_toArray, List.set_cons_zero, List.set_cons_succ]
          first | (refine pl_no (i := 13) (oi := { dst := some 47, op := .nilCheck (.tmp 46), type := 0, pos := "register.go:90", after := #[{ on := 12, ground := .data }, { on := 11, ground := .guard }], guard := some (11, false) }) rfl (by kernel_rfl) (by kernel_rfl) rfl ?_) | ((refine pl_yes (i := 13) (oi := { dst := some 47, op := .nilCheck (.tmp 46), type := 0, pos := "register.go:90", after := #[{ on := 12, ground := .data }, { on := 11, ground := .guard }], guard := some (11, false) }) (v := ?_) rfl (by kernel_rfl) (by kernel_rfl) rfl ?_ ?_); rotate_left; focus (intro W hW; (try dsimp only at hW); go_split_ands; go_simp; (try (simp (disch := omega) only [IntWalk.i64_in]; (try go_simp))); (try (split; (next => omega); (try go_simp))); try rfl; done))
          try simp only [Act.put, List.setIfInBounds_toArray, List.set_cons_zero, List.set_cons_succ]
          first | (refine pl_no (i := 14) (oi := { dst := some 48, op := .fieldAddr 88 (.tmp 47) 1, type := 0, pos := "register.go:90", after := #[{ on := 13, ground := .data }, { on := 11, ground := .guard }], guard := some (11, false) }) rfl (by kernel_rfl) (by kernel_rfl) rfl ?_) | ((refine pl_yes (i := 14) (oi := { dst := some 48, op := .fieldAddr 88 (.tmp 47) 1, type := 0, pos := "register.go:90", after := #[{ on := 13, ground := .data }, { on := 11, ground := .guard }], guard := some (11, false) }) (v := ?_) rfl (by kernel_rfl) (by kernel_rfl) rfl ?_ ?_); rotate_left; focus (intro W hW; (try dsimp only at hW); go_split_ands; go_simp; (try (simp (disch := omega) only [IntWalk.i64_in]; (try go_simp))); (try (split; (next => omega); (try go_simp))); try rfl; done))
          try simp only [Act.put, List.setIfInBounds_toArray, List.set_cons_zero, List.set_cons_succ]
          first | (refine pl_no (i := 15) (oi := { dst := some 49, op := .load 28 (.tmp 48), type := 28, pos := "register.go:90", after := #[{ on := 14, ground := .data }, { on := 11, ground := .guard }], guard := some (11, false) }) rfl (by kernel_rfl) (by kernel_rfl) rfl ?_) | ((refine pl_yes (i := 15) (oi := { dst := some 49, op := .load 28 (.tmp 48), type := 28, pos := "register.go:90", after := #[{ on := 14, ground := .data }, { on := 11, ground := .guard }], guard := some (11, false) }) (v := ?_) rfl (by kernel_rfl) (by kernel_rfl) rfl ?_ ?_); rotate_left; focus (intro W hW; (try dsimp only at hW); go_split_ands; go_simp; (try (simp (disch := omega) only [IntWalk.i64_in]; (try go_simp))); (try (split; (next => omega); (try go_simp))); try rfl; done))
          try simp only [Act.put, List.setIfInBounds_toArray, List.set_cons_zero, List.set_cons_succ]
          first | (refine pl_no (i := 16) (oi := { dst := some 50, op := .move (.tmp 2), type := 28, pos := "register.go:90", after := #[{ on := 11, ground := .guard }], guard := some (11, false) }) rfl (by kernel_rfl) (by kernel_rfl) rfl ?_) | ((refine pl_yes (i := 16) (oi := { dst := some 50, op := .move (.tmp 2), type := 28, pos := "register.go:90", after := #[{ on := 11, ground := .guard }], guard := some (11, false) }) (v := ?_) rfl (by kernel_rfl) (by kernel_rfl) rfl ?_ ?_); rotate_left; focus (intro W hW; (try dsimp only at hW); go_split_ands; go_simp; (try (simp (disch := omega) only [IntWalk.i64_in]; (try go_simp))); (try (split; (next => omega); (try go_simp))); try rfl; done))
          try simp only [Act.put, List.setIfInBounds_toArray, List.set_cons_zero, List.set_cons_succ]
          refine pl_no (i := 17) (oi := { dst := some 51, op := .call { callee := .value (.func 70), args := #[.tmp 49, .tmp 50, .func 71], argTypes := #[28, 28, 142] }, type := 4, pos := "register.go:90", after := #[{ on := 15, ground := .data }, { on := 16, ground := .data }, { on := 11, ground := .chain }, { on := 11, ground := .guard }], guard := some (11, false) }) rfl (by kernel_rfl) (by kernel_rfl) rfl ?_
          try simp only [Act.put, List.setIfInBounds_toArray, List.set_cons_zero, List.set_cons_succ]
          first | (refine pl_no (i := 18) (oi := { dst := some 52, op := .unOp .not 4 (.tmp 51), type := 4, pos := "register.go:90", after := #[{ on := 17, ground := .data }, { on := 11, ground := .guard }], guard := some (11, false) }) rfl (by kernel_rfl) (by kernel_rfl) rfl ?_) | ((refine pl_yes (i := 18) (oi := { dst := some 52, op := .unOp .not 4 (.tmp 51), type := 4, pos := "register.go:90", after := #[{ on := 17, ground := .data }, { on := 11, ground := .guard }], guard := some (11, false) }) (v := ?_) rfl (by kernel_rfl) (by kernel_rfl) rfl ?_ ?_); rotate_left; focus (intro W hW; (try dsimp only at hW); go_split_ands; go_simp; (try (simp (disch := omega) only [IntWalk.i64_in]; (try go_simp))); (try (split; (next => omega); (try go_simp))); try rfl; done))
          try simp only [Act.put, List.setIfInBounds_toArray, List.set_cons_zero, List.set_cons_succ]
          ((refine pl_yes (i := 19) (oi := { dst := some 53, op := .pick (.tmp 45) (.const (.bool true)) (.tmp 52), type := 4, pos := "register.go:90", after := #[{ on := 11, ground := .data }, { on := 18, ground := .data }], guard := none }) (v := ?_) rfl (by kernel_rfl) (by kernel_rfl) rfl ?_ ?_); rotate_left; focus (intro W hW; (try dsimp only at hW); go_split_ands; go_simp; (try (simp (disch := omega) only [IntWalk.i64_in]; (try go_simp))); (try (split; (next => omega); (try go_simp))); try rfl; done))
          try simp only [Act.put, List.setIfInBounds_toArray, List.set_cons_zero, List.set_cons_succ]
          refine pl_done (by kernel_rfl)  ?_
          rintro w5 ⟨-, -, -, hc5⟩
          have cw5 := cw4.trans hc5
          go_wp2_with (with_reducible first | refine stop_append ?_ | refine stop_copy ?_ | refine stop_make ?_ | refine stop_lookup ?_ | refine stop_update ?_ | refine stop_slice ?_ | refine stop_range ?_ | refine stop_next ?_ | refine stop_convert ⟨_, rfl⟩ ?_ | refine stop_convertB ⟨_, _, _, rfl⟩ ?_ | refine stop_eqSlice ⟨_, _, rfl⟩ ?_)
          go_ret
          rw [HF2.out]
          exact ⟨rfl, HI.out _ cw5, HregX.out _ cw5⟩
        · rcases b2 with _ | _
          all_goals
            refine pl_start (fun W => (W.cell? ⟨b, 0, none⟩ = some (.int .i64 t) ∧ W.cell? ⟨b, 1, none⟩ = some (.slice Aq q.length cq) ∧ W.cell? ⟨b, 2, none⟩ = some (.slice As s.length cs)) ∧ (W.cell? ⟨g, j * 5, none⟩ = some (.int .i64 t2) ∧ W.cell? ⟨g, j * 5 + 1, none⟩ = some (.slice Bq n1 dq) ∧ W.cell? ⟨g, j * 5 + 2, none⟩ = some (.slice Bs n2 ds)) ∧ W.cell? ⟨g, i * 5 + 3, none⟩ = some (.slice Bt n3 dt) ∧ Chg No w4 W) (by kernel_rfl) (by kernel_rfl) (HS.out _ (Chg.refl No w4).drew) ?_
            ((refine pl_yes (i := 0) (oi := { dst := some 34, op := .move (.tmp 7), type := 139, pos := "register.go:90", after := #[], guard := none }) (v := ?_) rfl (by kernel_rfl) (by kernel_rfl) rfl ?_ ?_); rotate_left; focus (intro W hW; (try dsimp only at hW); go_split_ands; go_simp; (try (simp (disch := omega) only [IntWalk.i64_in]; (try go_simp))); (try (split; (next => omega); (try go_simp))); try rfl; done))
            try simp only [Act.put, List.setIfInBounds_toArray, List.set_cons_zero, List.set_cons_succ]
            ((refine pl_yes (i := 1) (oi := { dst := some 35, op := .binOp .eql 139 (.tmp 34) (.const (.pointer none)) 139, type := 4, pos := "register.go:90", after := #[{ on := 0, ground := .data }], guard := none }) (v := ?_) rfl (by kernel_rfl) (by kernel_rfl) rfl ?_ ?_); rotate_left; focus (intro W hW; (try dsimp only at hW); go_split_ands; go_simp; (try (simp (disch := omega) only [IntWalk.i64_in]; (try go_simp))); (try (split; (next => omega); (try go_simp))); try rfl; done))
            try simp only [Act.put, List.setIfInBounds_toArray, List.set_cons_zero, List.set_cons_succ]
            ((refine pl_yes (i := 2) (oi := { dst := some 36, op := .move (.tmp 35), type := 4, pos := "register.go:90", after := #[{ on := 1, ground := .data }], guard := none }) (v := ?_) rfl (by kernel_rfl) (by kernel_rfl) rfl ?_ ?_); rotate_left; focus (intro W hW; (try dsimp only at hW); go_split_ands; go_simp; (try (simp (disch := omega) only [IntWalk.i64_in]; (try go_simp))); (try (split; (next => omega); (try go_simp))); try rfl; done))
            try simp only [Act.put, List.setIfInBounds_toArray, List.set_cons_zero, List.set_cons_succ]
            first | (refine pl_no (i := 3) (oi := { dst := some 37, op := .move (.tmp 8), type := 139, pos := "register.go:90", after := #[{ on := 2, ground := .guard }], guard := some (2, false) }) rfl (by kernel_rfl) (by kernel_rfl) rfl ?_) | ((refine pl_yes (i := 3) (oi := { dst := some 37, op := .move (.tmp 8), type := 139, pos := "register.go:90", after := #[{ on := 2, ground := .guard }], guard := some (2, false) }) (v := ?_) rfl (by kernel_rfl) (by kernel_rfl) rfl ?_ ?_); rotate_left; focus (intro W hW; (try dsimp only at hW); go_split_ands; go_simp; (try (simp (disch := omega) only [IntWalk.i64_in]; (try go_simp))); (try (split; (next => omega); (try go_simp))); try rfl; done))
            try simp only [Act.put, List.setIfInBounds_toArray, List.set_cons_zero, List.set_cons_succ]
            first | (refine pl_no (i := 4) (oi := { dst := some 38, op := .nilCheck (.tmp 37), type := 0, pos := "register.go:90", after := #[{ on := 3, ground := .data }, { on := 2, ground := .guard }], guard := some (2, false) }) rfl (by kernel_rfl) (by kernel_rfl) rfl ?_) | ((refine pl_yes (i := 4) (oi := { dst := some 38, op := .nilCheck (.tmp 37), type := 0, pos := "register.go:90", after := #[{ on := 3, ground := .data }, { on := 2, ground := .guard }], guard := some (2, false) }) (v := ?_) rfl (by kernel_rfl) (by kernel_rfl) rfl ?_ ?_); rotate_left; focus (intro W hW; (try dsimp only at hW); go_split_ands; go_simp; (try (simp (disch := omega) only [IntWalk.i64_in]; (try go_simp))); (try (split; (next => omega); (try go_simp))); try rfl; done))
            try simp only [Act.put, List.setIfInBounds_toArray, List.set_cons_zero, List.set_cons_succ]
            first | (refine pl_no (i := 5) (oi := { dst := some 39, op := .fieldAddr 88 (.tmp 38) 0, type := 0, pos := "register.go:90", after := #[{ on := 4, ground := .data }, { on := 2, ground := .guard }], guard := some (2, false) }) rfl (by kernel_rfl) (by kernel_rfl) rfl ?_) | ((refine pl_yes (i := 5) (oi := { dst := some 39, op := .fieldAddr 88 (.tmp 38) 0, type := 0, pos := "register.go:90", after := #[{ on := 4, ground := .data }, { on := 2, ground := .guard }], guard := some (2, false) }) (v := ?_) rfl (by kernel_rfl) (by kernel_rfl) rfl ?_ ?_); rotate_left; focus (intro W hW; (try dsimp only at hW); go_split_ands; go_simp; (try (simp (disch := omega) only [IntWalk.i64_in]; (try go_simp))); (try (split; (next => omega); (try go_simp))); try rfl; done))
            try simp only [Act.put, List.setIfInBounds_toArray, List.set_cons_zero, List.set_cons_succ]
            first | (refine pl_no (i := 6) (oi := { dst := some 40, op := .load 68 (.tmp 39), type := 68, pos := "register.go:90", after := #[{ on := 5, ground := .data }, { on := 2, ground := .guard }], guard := some (2, false) }) rfl (by kernel_rfl) (by kernel_rfl) rfl ?_) | ((refine pl_yes (i := 6) (oi := { dst := some 40, op := .load 68 (.tmp 39), type := 68, pos := "register.go:90", after := #[{ on := 5, ground := .data }, { on := 2, ground := .guard }], guard := some (2, false) }) (v := ?_) rfl (by kernel_rfl) (by kernel_rfl) rfl ?_ ?_); rotate_left; focus (intro W hW; (try dsimp only at hW); go_split_ands; go_simp; (try (simp (disch := omega) only [IntWalk.i64_in]; (try go_simp))); (try (split; (next => omega); (try go_simp))); try rfl; done))
            try simp only [Act.put, List.setIfInBounds_toArray, List.set_cons_zero, List.set_cons_succ]
            first | (refine pl_no (i := 7) (oi := { dst := some 41, op := .load 68 (.tmp 4), type := 68, pos := "register.go:90", after := #[{ on := 2, ground := .guard }], guard := some (2, false) }) rfl (by kernel_rfl) (by kernel_rfl) rfl ?_) | ((refine pl_yes (i := 7) (oi := { dst := some 41, op := .load 68 (.tmp 4), type := 68, pos := "register.go:90", after := #[{ on := 2, ground := .guard }], guard := some (2, false) }) (v := ?_) rfl (by kernel_rfl) (by kernel_rfl) rfl ?_ ?_); rotate_left; focus (intro W hW; (try dsimp only at hW); go_split_ands; go_simp; (try (simp (disch := omega) only [IntWalk.i64_in]; (try go_simp))); (try (split; (next => omega); (try go_simp))); try rfl; done))
            try simp only [Act.put, List.setIfInBounds_toArray, List.set_cons_zero, List.set_cons_succ]
            refine pl_call (i := 8) (oi := { dst := some 42, op := .call { callee := .value (.func 44), args := #[.tmp 40, .tmp 41], argTypes := #[68, 68] }, type := 4, pos := "register.go:90", after := #[{ on := 6, ground := .data }, { on := 7, ground := .data }, { on := 2, ground := .chain }, { on := 2, ground := .guard }], guard := some (2, false) }) (.bool true) rfl (by kernel_rfl) (by kernel_rfl) rfl (by exact (fun W hW => (Hsm.out W hW.2.2.2).mono fun e w' h => ⟨h.1, HS.out _ (hW.2.2.2.trans h.2)⟩)) (fun W => by kernel_rfl) ?_
            try simp only [Act.put, List.setIfInBounds_toArray, List.set_cons_zero, List.set_cons_succ]
            first | (refine pl_no (i := 9) (oi := { dst := some 43, op := .unOp .not 4 (.tmp 42), type := 4, pos := "register.go:90", after := #[{ on := 8, ground := .data }, { on := 2, ground := .guard }], guard := some (2, false) }) rfl (by kernel_rfl) (by kernel_rfl) rfl ?_) | ((refine pl_yes (i := 9) (oi := { dst := some 43, op := .unOp .not 4 (.tmp 42), type := 4, pos := "register.go:90", after := #[{ on := 8, ground := .data }, { on := 2, ground := .guard }], guard := some (2, false) }) (v := ?_) rfl (by kernel_rfl) (by kernel_rfl) rfl ?_ ?_); rotate_left; focus (intro W hW; (try dsimp only at hW); go_split_ands; go_simp; (try (simp (disch := omega) only [IntWalk.i64_in]; (try go_simp))); (try (split; (next => omega); (try go_simp))); try rfl; done))
            try simp only [Act.put, List.setIfInBounds_toArray, List.set_cons_zero, List.set_cons_succ]
            ((refine pl_yes (i := 10) (oi := { dst := some 44, op := .pick (.tmp 36) (.const (.bool true)) (.tmp 43), type := 4, pos := "register.go:90", after := #[{ on := 2, ground := .data }, { on := 9, ground := .data }], guard := none }) (v := ?_) rfl (by kernel_rfl) (by kernel_rfl) rfl ?_ ?_); rotate_left; focus (intro W hW; (try dsimp only at hW); go_split_ands; go_simp; (try (simp (disch := omega) only [IntWalk.i64_in]; (try go_simp))); (try (split; (next => omega); (try go_simp))); try rfl; done))
            try simp only [Act.put, List.setIfInBounds_toArray, List.set_cons_zero, List.set_cons_succ]
            ((refine pl_yes (i := 11) (oi := { dst := some 45, op := .move (.tmp 44), type := 4, pos := "register.go:90", after := #[{ on := 10, ground := .data }, { on := 8, ground := .chain }], guard := none }) (v := ?_) rfl (by kernel_rfl) (by kernel_rfl) rfl ?_ ?_); rotate_left; focus (intro W hW; (try dsimp only at hW); go_split_ands; go_simp; (try (simp (disch := omega) only [IntWalk.i64_in]; (try go_simp))); (try (split; (next => omega); (try go_simp))); try rfl; done))
            try simp only [Act.put, List.setIfInBounds_toArray, List.set_cons_zero, List.set_cons_succ]
            first | (refine pl_no (i := 12) (oi := { dst := some 46, op := .move (.tmp 7), type := 139, pos := "register.go:90", after := #[{ on := 11, ground := .guard }], guard := some (11, false) }) rfl (by kernel_rfl) (by kernel_rfl) rfl ?_) | ((refine pl_yes (i := 12) (oi := { dst := some 46, op := .move (.tmp 7), type := 139, pos := "register.go:90", after := #[{ on := 11, ground := .guard }], guard := some (11, false) }) (v := ?_) rfl (by kernel_rfl) (by kernel_rfl) rfl ?_ ?_); rotate_left; focus (intro W hW; (try dsimp only at hW); go_split_ands; go_simp; (try (simp (disch := omega) only [IntWalk.i64_in]; (try go_simp))); (try (split; (next => omega); (try go_simp))); try rfl; done))
            try simp only [Act.put, List.setIfInBounds_toArray, List.set_cons_zero, List.set_cons_succ]
            first | (refine pl_no (i := 13) (oi := { dst := some 47, op := .nilCheck (.tmp 46), type := 0, pos := "register.go:90", after := #[{ on := 12, ground := .data }, { on := 11, ground := .guard }], guard := some (11, false) }) rfl (by kernel_rfl) (by kernel_rfl) rfl ?_) | ((refine pl_yes (i := 13) (oi := { dst := some 47, op := .nilCheck (.tmp 46), type := 0, pos := "register.go:90", after := #[{ on := 12, ground := .data }, { on := 11, ground := .guard }], guard := some (11, false) }) (v := ?_) rfl (by kernel_rfl) (by kernel_rfl) rfl ?_ ?_); rotate_left; focus (intro W hW; (try dsimp only at hW); go_split_ands; go_simp; (try (simp (disch := omega) only [IntWalk.i64_in]; (try go_simp))); (try (split; (next => omega); (try go_simp))); try rfl; done))
            try simp only [Act.put, List.setIfInBounds_toArray, List.set_cons_zero, List.set_cons_succ]
            first | (refine pl_no (i := 14) (oi := { dst := some 48, op := .fieldAddr 88 (.tmp 47) 1, type := 0, pos := "register.go:90", after := #[{ on := 13, ground := .data }, { on := 11, ground := .guard }], guard := some (11, false) }) rfl (by kernel_rfl) (by kernel_rfl) rfl ?_) | ((refine pl_yes (i := 14) (oi := { dst := some 48, op := .fieldAddr 88 (.tmp 47) 1, type := 0, pos := "register.go:90", after := #[{ on := 13, ground := .data }, { on := 11, ground := .guard }], guard := some (11, false) }) (v := ?_) rfl (by kernel_rfl) (by kernel_rfl) rfl ?_ ?_); rotate_left; focus (intro W hW; (try dsimp only at hW); go_split_ands; go_simp; (try (simp (disch := omega) only [IntWalk.i64_in]; (try go_simp))); (try (split; (next => omega); (try go_simp))); try rfl; done))
            try simp only [Act.put, List.setIfInBounds_toArray, List.set_cons_zero, List.set_cons_succ]
            first | (refine pl_no (i := 15) (oi := { dst := some 49, op := .load 28 (.tmp 48), type := 28, pos := "register.go:90", after := #[{ on := 14, ground := .data }, { on := 11, ground := .guard }], guard := some (11, false) }) rfl (by kernel_rfl) (by kernel_rfl) rfl ?_) | ((refine pl_yes (i := 15) (oi := { dst := some 49, op := .load 28 (.tmp 48), type := 28, pos := "register.go:90", after := #[{ on := 14, ground := .data }, { on := 11, ground := .guard }], guard := some (11, false) }) (v := ?_) rfl (by kernel_rfl) (by kernel_rfl) rfl ?_ ?_); rotate_left; focus (intro W hW; (try dsimp only at hW); go_split_ands; go_simp; (try (simp (disch := omega) only [IntWalk.i64_in]; (try go_simp))); (try (split; (next => omega); (try go_simp))); try rfl; done))
            try simp only [Act.put, List.setIfInBounds_toArray, List.set_cons_zero, List.set_cons_succ]
            first | (refine pl_no (i := 16) (oi := { dst := some 50, op := .move (.tmp 2), type := 28, pos := "register.go:90", after := #[{ on := 11, ground := .guard }], guard := some (11, false) }) rfl (by kernel_rfl) (by kernel_rfl) rfl ?_) | ((refine pl_yes (i := 16) (oi := { dst := some 50, op := .move (.tmp 2), type := 28, pos := "register.go:90", after := #[{ on := 11, ground := .guard }], guard := some (11, false) }) (v := ?_) rfl (by kernel_rfl) (by kernel_rfl) rfl ?_ ?_); rotate_left; focus (intro W hW; (try dsimp only at hW); go_split_ands; go_simp; (try (simp (disch := omega) only [IntWalk.i64_in]; (try go_simp))); (try (split; (next => omega); (try go_simp))); try rfl; done))
            try simp only [Act.put, List.setIfInBounds_toArray, List.set_cons_zero, List.set_cons_succ]
            refine pl_call (i := 17) (oi := { dst := some 51, op := .call { callee := .value (.func 70), args := #[.tmp 49, .tmp 50, .func 71], argTypes := #[28, 28, 142] }, type := 4, pos := "register.go:90", after := #[{ on := 15, ground := .data }, { on := 16, ground := .data }, { on := 11, ground := .chain }, { on := 11, ground := .guard }], guard := some (11, false) }) (.bool _) rfl (by kernel_rfl) (by kernel_rfl) rfl (by exact (fun W hW => (Heq.out W hW.2.2.2).mono fun e w' h => ⟨h.1, HS.out _ (hW.2.2.2.trans h.2)⟩)) (fun W => by kernel_rfl) ?_
            try simp only [Act.put, List.setIfInBounds_toArray, List.set_cons_zero, List.set_cons_succ]
            first | (refine pl_no (i := 18) (oi := { dst := some 52, op := .unOp .not 4 (.tmp 51), type := 4, pos := "register.go:90", after := #[{ on := 17, ground := .data }, { on := 11, ground := .guard }], guard := some (11, false) }) rfl (by kernel_rfl) (by kernel_rfl) rfl ?_) | ((refine pl_yes (i := 18) (oi := { dst := some 52, op := .unOp .not 4 (.tmp 51), type := 4, pos := "register.go:90", after := #[{ on := 17, ground := .data }, { on := 11, ground := .guard }], guard := some (11, false) }) (v := ?_) rfl (by kernel_rfl) (by kernel_rfl) rfl ?_ ?_); rotate_left; focus (intro W hW; (try dsimp only at hW); go_split_ands; go_simp; (try (simp (disch := omega) only [IntWalk.i64_in]; (try go_simp))); (try (split; (next => omega); (try go_simp))); try rfl; done))
            try simp only [Act.put, List.setIfInBounds_toArray, List.set_cons_zero, List.set_cons_succ]
            ((refine pl_yes (i := 19) (oi := { dst := some 53, op := .pick (.tmp 45) (.const (.bool true)) (.tmp 52), type := 4, pos := "register.go:90", after := #[{ on := 11, ground := .data }, { on := 18, ground := .data }], guard := none }) (v := ?_) rfl (by kernel_rfl) (by kernel_rfl) rfl ?_ ?_); rotate_left; focus (intro W hW; (try dsimp only at hW); go_split_ands; go_simp; (try (simp (disch := omega) only [IntWalk.i64_in]; (try go_simp))); (try (split; (next => omega); (try go_simp))); try rfl; done))
            try simp only [Act.put, List.setIfInBounds_toArray, List.set_cons_zero, List.set_cons_succ]
            refine pl_done (by kernel_rfl)  ?_
            rintro w5 ⟨-, -, -, hc5⟩
            have cw5 := cw4.trans hc5
            go_wp2_with (with_reducible first | refine stop_append ?_ | refine stop_copy ?_ | refine stop_make ?_ | refine stop_lookup ?_ | refine stop_update ?_ | refine stop_slice ?_ | refine stop_range ?_ | refine stop_next ?_ | refine stop_convert ⟨_, rfl⟩ ?_ | refine stop_convertB ⟨_, _, _, rfl⟩ ?_ | refine stop_eqSlice ⟨_, _, rfl⟩ ?_)
            go_ret
            rw [HF2.out]
            exact ⟨rfl, HI.out _ cw5, HregX.out _ cw5⟩
theorem install_right (B p : Nat) (rows : List Rw) (t : Int) (vq vs vt : Value) (q : List Int) (s : List (List Int)) (l : List Ent) (w : World) (hreg : RegS w B p rows) (hi : RowsI rows)
    (hq : Sl (Ge B) w vq q) (hs : Sl (Ge B) w vs s) (ht : Sl No w vt l) (hbt : TailI l) (hr : rightC t q s = true) :
    Calls Try.prog 33 #[.pointer (some ⟨p, 0, none⟩), cfgV t vq vs, vt] w fun e w' => e = .returned (.int .i64 (installF rows t q s l).1) ∧ Inst w w' p ∧ RegS w' B p (installF rows t q s l).2 :=
  install_rightX (Lt B) B p rows t vq vs vt q s l w hreg (fun _ h => h) (fun k hk => by
    have h1 := hreg.lt
    obtain ⟨_, _, h2, _⟩ := hreg
    simp only [Lt] at hk
    omega) hi hq hs ht hbt hr
end Go.Proofs.Ytbjpoamnglfjeaa


/- Package register: Install as a whole; what installs keep (no program in sight). -/
set_option linter.unusedVariables false
set_option linter.unusedSimpArgs false
namespace Go.Proofs.Ytbjpoamnglfjeaa
open Go.RowKit Cb

def CfgI (q : List Int) (s : List (List Int)) : Prop := q.length * 8 ≤ 140737488351232 ∧ s.length * 24 ≤ 140737488351232 ∧ ∀ x ∈ s, x.length * 8 ≤ 140737488351232
theorem installF_wrong {rows : List Rw} {t : Int} {q : List Int} {s : List (List Int)} {l : List Ent} (h : rightC t q s = false) : installF rows t q s l = (1, rows) := by
  rw [installF, h, Bool.false_and]; rfl
theorem install_any (B p : Nat) (rows : List Rw) (t : Int) (vq vs vt : Value) (q : List Int) (s : List (List Int)) (l : List Ent) (w : World) (hreg : RegS w B p rows) (hi : RowsI rows)
    (hq : Sl (Ge B) w vq q) (hs : Sl (Ge B) w vs s) (ht : Sl No w vt l) (hc : CfgI q s) (hl : TailI l) :
    Calls Try.prog 33 #[.pointer (some ⟨p, 0, none⟩), cfgV t vq vs, vt] w fun e w' => e = .returned (.int .i64 (installF rows t q s l).1) ∧ Inst w w' p ∧ RegS w' B p (installF rows t q s l).2 := by
  rcases hr : rightC t q s with _ | _
  · rw [installF_wrong hr]
    refine (install_wrong p t vq vs vt q s w hq.no hs.no hc.1 (by have := hc.2.1; omega) hc.2.2 hr).mono ?_
    rintro e w' ⟨rfl, h⟩
    exact ⟨rfl, Inst.no hreg h, hreg.keepNo h⟩
  · exact install_right B p rows t vq vs vt q s l w hreg hi hq hs ht hl hr
theorem install_anyX (F : Nat → Prop) (B p : Nat) (rows : List Rw) (t : Int) (vq vs vt : Value) (q : List Int) (s : List (List Int)) (l : List Ent) (w : World) (hreg : RegX F w B p rows) (hFB : ∀ k, k < B → F k) (hF0 : ∀ k, F k → k < w.heap.size) (hi : RowsI rows)
    (hq : Sl (Ge B) w vq q) (hs : Sl (Ge B) w vs s) (ht : Sl No w vt l) (hc : CfgI q s) (hl : TailI l) :
    Calls Try.prog 33 #[.pointer (some ⟨p, 0, none⟩), cfgV t vq vs, vt] w fun e w' => e = .returned (.int .i64 (installF rows t q s l).1) ∧ Inst w w' p ∧ RegX F w' B p (installF rows t q s l).2 := by
  rcases hr : rightC t q s with _ | _
  · rw [installF_wrong hr]
    refine (install_wrong p t vq vs vt q s w hq.no hs.no hc.1 (by have := hc.2.1; omega) hc.2.2 hr).mono ?_
    rintro e w' ⟨rfl, h⟩
    exact ⟨rfl, Inst.no (hreg.toS hFB) h, hreg.keepNo h⟩
  · exact install_rightX F B p rows t vq vs vt q s l w hreg hFB hF0 hi hq hs ht hl hr
theorem installF_cases (rows : List Rw) (t : Int) (q : List Int) (s : List (List Int)) (l : List Ent) (hi : 0 < rows.length) :
    ((installF rows t q s l).2 = rows) ∨
    (rightC t q s = true ∧ fitsB (nsF rows (t - 1)) l = true ∧ t = firstR rows + rows.length ∧ atR rows t = none ∧ atR rows (t - 1) = some (rows.length - 1) ∧
      installF rows t q s l = (0, rows.set (rows.length - 1) ((rowA rows (rows.length - 1)).1, (rowA rows (rows.length - 1)).2.1, (rowA rows (rows.length - 1)).2.2.1, l, true) ++ [(t, q, s, [], false)])) := by
  unfold installF installG
  rcases h1 : rightC t q s with _ | _
  · exact .inl rfl
  rcases h2 : fitsB (nsF rows (t - 1)) l with _ | _
  · exact .inl rfl
  simp only [Bool.and_self, if_true]
  rcases h3 : atR rows t with _ | j <;> rcases h4 : atR rows (t - 1) with _ | i
  · exact .inl rfl
  · right
    obtain ⟨h5, h6⟩ := atR_some hi h4
    have h7 := atR_none h3
    have : i = rows.length - 1 := by omega
    subst this
    exact ⟨trivial, trivial, by omega, rfl, rfl, rfl⟩
  · exact .inl rfl
  · exact .inl rfl
def newR (rows : List Rw) (t : Int) (q : List Int) (s : List (List Int)) (l : List Ent) : List Rw :=
  rows.set (rows.length - 1) ((rowA rows (rows.length - 1)).1, (rowA rows (rows.length - 1)).2.1, (rowA rows (rows.length - 1)).2.2.1, l, true) ++ [(t, q, s, [], false)]
theorem newR_len (rows : List Rw) (t : Int) (q : List Int) (s : List (List Int)) (l : List Ent) : (newR rows t q s l).length = rows.length + 1 := by simp [newR]
/-- What stands in a new row. -/
theorem newR_get (rows : List Rw) (t : Int) (q : List Int) (s : List (List Int)) (l : List Ent) (i : Nat) (h : i < (newR rows t q s l).length) :
    (newR rows t q s l)[i] = if i = rows.length then (t, q, s, [], false) else if i = rows.length - 1 then ((rowA rows i).1, (rowA rows i).2.1, (rowA rows i).2.2.1, l, true) else rowA rows i := by
  have hn := newR_len rows t q s l
  have key : ∀ (r : List Rw) (hr : r = newR rows t q s l) (h : i < r.length), r[i] = if i = rows.length then (t, q, s, [], false) else if i = rows.length - 1 then ((rowA rows i).1, (rowA rows i).2.1, (rowA rows i).2.2.1, l, true) else rowA rows i := by
    intro r hr h
    unfold newR at hr
    subst hr
    exact step i (by simpa using h) h
  exact key _ rfl h
where
  step (i : Nat) (h : i < rows.length + 1) (h' : i < (rows.set (rows.length - 1) ((rowA rows (rows.length - 1)).1, (rowA rows (rows.length - 1)).2.1, (rowA rows (rows.length - 1)).2.2.1, l, true) ++ [(t, q, s, [], false)]).length) :
      (rows.set (rows.length - 1) ((rowA rows (rows.length - 1)).1, (rowA rows (rows.length - 1)).2.1, (rowA rows (rows.length - 1)).2.2.1, l, true) ++ [(t, q, s, [], false)])[i] = if i = rows.length then (t, q, s, [], false) else if i = rows.length - 1 then ((rowA rows i).1, (rowA rows i).2.1, (rowA rows i).2.2.1, l, true) else rowA rows i := by
    rw [List.getElem_append]
    by_cases h1 : i = rows.length
    · simp [h1]
    · have hlt : i < rows.length := by omega
      rw [if_neg h1, dif_pos (by simpa using hlt), List.getElem_set]
      by_cases h2 : rows.length - 1 = i
      · rw [if_pos h2, if_pos h2.symm, h2]
      · rw [if_neg h2, if_neg (fun h => h2 h.symm), rowA_get rows i hlt]
theorem newR_first (rows : List Rw) (t : Int) (q : List Int) (s : List (List Int)) (l : List Ent) (hi : 0 < rows.length) : firstR (newR rows t q s l) = firstR rows := by
  have hn := newR_len rows t q s l
  have e : ∀ r : List Rw, (h : 0 < r.length) → firstR r = r[0].1 := fun r h => by cases r with
    | nil => simp at h
    | cons a b => rfl
  rw [e _ (by omega), e _ hi, newR_get]
  rw [if_neg (by omega), rowA_get rows 0 hi]
  split <;> rfl
theorem newR_rows {rows : List Rw} {t : Int} {q : List Int} {s : List (List Int)} {l : List Ent} (hi : RowsI rows) (hl : TailB l) (ht : t = firstR rows + rows.length) (hr : rightC t q s = true) : RowsI (newR rows t q s l) := by
  have hn := newR_len rows t q s l
  have hf := newR_first rows t q s l hi.1
  have hb := (rightC_iff.1 hr).1
  have hb0 := first_bound hi
  refine ⟨by omega, by omega, fun i h => ?_⟩
  have hff : ((newR rows t q s l).headD (0, [], [], [], false)).1 = firstR rows := hf
  rw [hff, newR_get]
  by_cases h1 : i = rows.length
  · rw [if_pos h1, h1]
    exact ⟨ht, hr, by simp [TailB]⟩
  · have hlt : i < rows.length := by omega
    have hx := hi.2.2 i hlt
    rw [if_neg h1, rowA_get rows i hlt]
    split
    · exact ⟨hx.1, hx.2.1, hl⟩
    · exact hx
theorem install_rows {rows : List Rw} {t : Int} {q : List Int} {s : List (List Int)} {l : List Ent} (hi : RowsI rows) (hl : TailI l) : RowsI (installF rows t q s l).2 ∧ firstR (installF rows t q s l).2 = firstR rows := by
  rcases installF_cases rows t q s l hi.1 with h | ⟨h1, h2, h3, h4, h5, h6⟩
  · rw [h]; exact ⟨hi, rfl⟩
  · rw [h6]
    exact ⟨newR_rows hi (fits_tail h2 hl) h3 h1, newR_first rows t q s l hi.1⟩
/-- Every row but the last is over. -/
def OverI (rows : List Rw) : Prop := ∀ i (h : i < rows.length), rows[i].2.2.2.2 = decide (i + 1 < rows.length)
theorem newR_over {rows : List Rw} {t : Int} {q : List Int} {s : List (List Int)} {l : List Ent} (ho : OverI rows) : OverI (newR rows t q s l) := by
  have hn := newR_len rows t q s l
  intro i h
  rw [newR_get]
  by_cases h1 : i = rows.length
  · rw [if_pos h1]
    exact (decide_eq_false (by omega)).symm
  · rw [if_neg h1]
    have hlt : i < rows.length := by omega
    have e : decide (i + 1 < (newR rows t q s l).length) = true := decide_eq_true (by omega)
    split
    · exact e.symm
    · rw [e, rowA_get rows i hlt, ho i hlt]
      exact decide_eq_true (by omega)
/-- What a register always is. -/
def RegI (rows : List Rw) : Prop := RowsI rows ∧ OverI rows
theorem install_reg {rows : List Rw} (t : Int) (q : List Int) (s : List (List Int)) {l : List Ent} (hi : RegI rows) (hl : TailI l) : RegI (installF rows t q s l).2 ∧ firstR (installF rows t q s l).2 = firstR rows := by
  rcases installF_cases rows t q s l hi.1.1 with h | ⟨h1, h2, h3, h4, h5, h6⟩
  · rw [h]; exact ⟨hi, rfl⟩
  · rw [h6]
    exact ⟨⟨newR_rows hi.1 (fits_tail h2 hl) h3 h1, newR_over hi.2⟩, newR_first rows t q s l hi.1.1⟩
theorem new_reg {t : Int} {q : List Int} {s : List (List Int)} (hr : rightC t q s = true) : RegI [(t, q, s, [], false)] :=
  ⟨⟨by simp, by simp, fun i h => by
    match i, h with
    | 0, _ => exact ⟨by simp, hr, by simp [TailB]⟩⟩, fun i h => by
    match i, h with
    | 0, _ => simp⟩
end Go.Proofs.Ytbjpoamnglfjeaa


/- Plain laws of the register's rows: what stays. -/
set_option linter.unusedVariables false
set_option linter.unusedSimpArgs false
namespace Go.Proofs.Ytbjpoamnglfjeaa
open Go.RowKit Cb

theorem atR_in {rows : List Rw} {t : Int} {i : Nat} (h : i < rows.length) (ht : t = firstR rows + i) : atR rows t = some i := by
  unfold atR
  rw [if_pos (by omega)]
  congr 1
  omega
end Go.Proofs.Ytbjpoamnglfjeaa


/- Plain laws of the register's rows: where records stand. -/
set_option linter.unusedVariables false
set_option linter.unusedSimpArgs false
namespace Go.Proofs.Ytbjpoamnglfjeaa
open Go.RowKit Cb

theorem many_bound (r : Rw) : 0 ≤ manyR r ∧ manyR r ≤ 8796093022208 := by
  unfold manyR total
  split
  · exact vright_sum ‹_›
  · omega
end Go.Proofs.Ytbjpoamnglfjeaa


/- Walks of the register's laws: few, mine, entries. -/
set_option linter.unusedVariables false
set_option linter.unusedSimpArgs false
namespace Go.Proofs.Ytbjpoamnglfjeaa
open Go.RowKit Cb

/-- A configuration, and an operation of a script. -/
abbrev Cfg := Int × List Int × List (List Int)
abbrev Op := Cfg × List Ent
theorem op_get {F : Nat → Prop} {w : World} {A : Option Addr} {n c : Nat} {l : List Op} (h : Sl F w (.slice A n c) l) (k : Nat) (hk : k < l.length) :
    ∃ b o vq vs vt, A = some ⟨b, o, none⟩ ∧ ¬ F b ∧ b < w.heap.size ∧ Sl F w vq l[k].1.2.1 ∧ Sl F w vs l[k].1.2.2 ∧ Sl F w vt l[k].2 ∧ w.cell? ⟨b, o + k * 4, none⟩ = some (.int .i64 l[k].1.1) ∧ w.cell? ⟨b, o + k * 4 + 1, none⟩ = some vq ∧ w.cell? ⟨b, o + k * 4 + 2, none⟩ = some vs ∧
      w.cell? ⟨b, o + k * 4 + 3, none⟩ = some vt := by
  obtain ⟨b, o, d, rfl, hF, hb, hd, ha⟩ := h.get k hk
  obtain ⟨d1, d2, rfl, ⟨d3, d4, rfl, rfl, ⟨d5, d6, rfl, ⟨vq, rfl, hq⟩, ⟨vs, rfl, hs⟩⟩⟩, ⟨vt, rfl, ht⟩⟩ := hd
  exact ⟨b, o, vq, vs, vt, rfl, hF, hb, hq, hs, ht, ha 0 _ rfl, ha 1 _ rfl, ha 2 _ rfl, ha 3 _ rfl⟩
def OpI (o : Op) : Prop := CfgI o.1.2.1 o.1.2.2 ∧ TailI o.2
/-- What few answers: yes or no. -/
def BoolOut (w : World) (e : Ending) (w' : World) : Prop := (∃ b, e = .returned (.bool b)) ∧ Chg No w w'
set_option maxRecDepth 100000 in
set_option maxHeartbeats 2000000 in
theorem fewr_any (F G H : Nat → Prop) (t : Int) (vq vs v : Value) (q : List Int) (s : List (List Int)) (l : List Op) (w : World) (hq : Sl F w vq q) (hs : Sl G w vs s) (h : Sl H w v l) (hl : l.length * 56 ≤ 140737488355328) (hc : CfgI q s) (ho : ∀ o ∈ l, OpI o) :
    Calls Try.prog 31 #[cfgV t vq vs, v] w (BoolOut w) := by
  obtain ⟨Aq, cq, rfl⟩ := hq.slice
  obtain ⟨As, cs, rfl⟩ := hs.slice
  obtain ⟨A, c, rfl⟩ := h.slice
  unfold cfgV
  have o1 := alloc_obj w (.cells #[.int .i64 t, .slice Aq q.length cq, .slice As s.length cs] 63)
  have hc0 := (Chg.refl No w).alloc (.cells #[.int .i64 t, .slice Aq q.length cq, .slice As s.length cs] 63)
  have a0 := cell_obj (i := 0) o1 rfl
  have a1 := cell_obj (i := 1) o1 rfl
  have a2 := cell_obj (i := 2) o1 rfl
  have H := Lib.hid (h.keepNo hc0)
  have Hs := Lib.hid (hs.keepNo hc0)
  have Ho := Lib.hid ho
  have hc1 := hc.1
  have hc2 := hc.2.1
  have Hc3 := Lib.hid hc.2.2
  clear h hs hq ho hc o1
  go_enter Try.func31, Try.ntmps31
  go_wp2_with (with_reducible first | refine stop_append ?_ | refine stop_copy ?_ | refine stop_make ?_ | refine stop_lookup ?_ | refine stop_update ?_ | refine stop_slice ?_ | refine stop_range ?_ | refine stop_next ?_ | refine stop_convert ⟨_, rfl⟩ ?_ | refine stop_convertB ⟨_, _, _, rfl⟩ ?_ | refine stop_eqSlice ⟨_, _, rfl⟩ ?_)
  generalize w.alloc (.cells #[.int .i64 t, .slice Aq q.length cq, .slice As s.length cs] 63) = w0 at *
  generalize w.heap.size = b at *
  clear a0
  go_loopw [5, 7, 9, 11, 23, 40, 54] (fun v5 _ _ _ v23 _ _ wr => ∃ (k : Nat) (n : Int), k ≤ l.length ∧ v23 = .int .i64 k ∧ v5 = .int .i64 n ∧ Chg No w0 wr) (fun _ _ _ _ v23 _ _ _ => l.length - (intOf v23).toNat)
  case atStart => exact ⟨0, _, by omega, rfl, rfl, Chg.refl _ _⟩
  case round =>
    obtain ⟨k, n, hk, rfl, rfl, hc1⟩ := hrel
    by_cases hlt : k < l.length
    · obtain ⟨b4, o4, vq4, vs4, vt4, rfl, -, hbl, sq, ss, st, k0, k1, k2, k3⟩ := op_get (H.out.keepNo hc1) k hlt
      obtain ⟨hcx, hlx⟩ := Ho.out _ (List.getElem_mem hlt)
      have hn1 := hcx.1
      have hn2 := hcx.2.1
      have hn3 := hlx.1
      have Hn4 := Lib.hid hlx.2
      have Hn5 := Lib.hid hcx.2.2
      clear hcx hlx
      generalize l[k] = x at *
      obtain ⟨⟨xt, xq, xs⟩, xl⟩ := x
      simp only at k0 k1 k2 k3 sq ss st hn1 hn2 hn3 Hn4 Hn5
      obtain ⟨Bq, dq, rfl⟩ := sq.slice
      obtain ⟨Bs, ds, rfl⟩ := ss.slice
      obtain ⟨Bt, dt, rfl⟩ := st.slice
      have hca := (Chg.refl No wr).alloc (.cells #[.int .i64 xt, .slice Bq xq.length dq, .slice Bs xs.length ds, .slice Bt xl.length dt] 71)
      have o2 := alloc_obj wr (.cells #[.int .i64 xt, .slice Bq xq.length dq, .slice Bs xs.length ds, .slice Bt xl.length dt] 71)
      have Hss := Lib.hid (ss.keepNo hca)
      have Hst := Lib.hid (st.keepNo hca)
      have c0 := cell_obj (i := 0) o2 rfl
      have c1 := cell_obj (i := 1) o2 rfl
      have c2 := cell_obj (i := 2) o2 rfl
      have c3 := cell_obj (i := 3) o2 rfl
      clear sq ss st o2
      go_wp2_with (with_reducible first | refine stop_append ?_ | refine stop_copy ?_ | refine stop_make ?_ | refine stop_lookup ?_ | refine stop_update ?_ | refine stop_slice ?_ | refine stop_range ?_ | refine stop_next ?_ | refine stop_convert ⟨_, rfl⟩ ?_ | refine stop_convertB ⟨_, _, _, rfl⟩ ?_ | refine stop_eqSlice ⟨_, _, rfl⟩ ?_)
      generalize wr.alloc (.cells #[.int .i64 xt, .slice Bq xq.length dq, .slice Bs xs.length ds, .slice Bt xl.length dt] 71) = wA at *
      generalize wr.heap.size = p2 at *
      have hcA := hc1.trans hca
      clear k0 k1 k2 k3 hbl hca
      obtain ⟨wA', rfl⟩ : ∃ W : World, W = wA := ⟨_, rfl⟩
      go_loopw [5, 9, 40] (fun v5 _ v40 wr => ∃ (j : Nat) (n : Int), j ≤ xl.length ∧ v40 = .int .i64 j ∧ v5 = .int .i64 n ∧ Chg No wA' wr) (fun _ _ v40 _ => xl.length - (intOf v40).toNat)
      case atStart => exact ⟨0, _, by omega, rfl, rfl, Chg.refl _ _⟩
      case round =>
        obtain ⟨j, m, hj, rfl, rfl, hc2⟩ := hrel
        by_cases hlj : j < xl.length
        · obtain ⟨b5, o5, vc, rfl, -, hb5, sc, e0, e1, e2, e3, e4, e5⟩ := ent_get (Hst.out.keepNo hc2) j hlj
          have hn6 := Hn4.out _ (List.getElem_mem hlj)
          generalize xl[j] = y at *
          obtain ⟨y0, y1, y2, y3, y4, y5⟩ := y
          simp only at sc e0 e1 e2 e3 e4 e5 hn6
          obtain ⟨Ac, cc, rfl⟩ := sc.slice
          have hcb := hc2.alloc (.cells #[.int .i64 y0, .int .i64 y1, .slice Ac y2.length cc, .int .i64 y3, .int .i64 y4, .int .i64 y5] 52)
          have o3 := alloc_obj wr (.cells #[.int .i64 y0, .int .i64 y1, .slice Ac y2.length cc, .int .i64 y3, .int .i64 y4, .int .i64 y5] 52)
          have f2 := cell_obj (i := 2) o3 rfl
          clear sc o3
          go_wp2_with (with_reducible first | refine stop_append ?_ | refine stop_copy ?_ | refine stop_make ?_ | refine stop_lookup ?_ | refine stop_update ?_ | refine stop_slice ?_ | refine stop_range ?_ | refine stop_next ?_ | refine stop_convert ⟨_, rfl⟩ ?_ | refine stop_convertB ⟨_, _, _, rfl⟩ ?_ | refine stop_eqSlice ⟨_, _, rfl⟩ ?_)
          go_roundw
          case rel => exact ⟨j + 1, _, by omega, by go_num, rfl, hcb⟩
          case measure => simp [intOf]; omega
        · obtain rfl : j = xl.length := by omega
          replace c2 := hc2.cell c2 (not_no _)
          obtain ⟨wB, rfl⟩ : ∃ W : World, W = wr := ⟨_, rfl⟩
          have hcB := hcA.trans hc2
          go_wp2_with (with_reducible first | refine stop_append ?_ | refine stop_copy ?_ | refine stop_make ?_ | refine stop_lookup ?_ | refine stop_update ?_ | refine stop_slice ?_ | refine stop_range ?_ | refine stop_next ?_ | refine stop_convert ⟨_, rfl⟩ ?_ | refine stop_convertB ⟨_, _, _, rfl⟩ ?_ | refine stop_eqSlice ⟨_, _, rfl⟩ ?_)
          go_loopw [5, 11, 54] (fun v5 _ v54 wr => ∃ (j : Nat) (n : Int), j ≤ xs.length ∧ v54 = .int .i64 j ∧ v5 = .int .i64 n ∧ wr = wB) (fun _ _ v54 _ => xs.length - (intOf v54).toNat)
          case atStart => exact ⟨0, _, by omega, rfl, rfl, rfl⟩
          case round =>
            obtain ⟨i, r, hi, rfl, rfl, rfl⟩ := hrel
            by_cases hli : i < xs.length
            · obtain ⟨b2, o2, d, rfl, _, hbl2, ⟨vj, rfl, hvj⟩, ha⟩ := (Hss.out.keepNo hc2).get i hli
              have ha0 := ha 0 _ rfl
              simp only [show Rep.n (List Int) = 1 from rfl, Nat.mul_one, Nat.add_zero] at ha0
              have hn7 := Hn5.out _ (List.getElem_mem hli)
              obtain ⟨Aj, cj, rfl⟩ := hvj.slice
              generalize xs[i].length = nj at *
              clear ha hvj
              go_wp2_with (with_reducible first | refine stop_append ?_ | refine stop_copy ?_ | refine stop_make ?_ | refine stop_lookup ?_ | refine stop_update ?_ | refine stop_slice ?_ | refine stop_range ?_ | refine stop_next ?_ | refine stop_convert ⟨_, rfl⟩ ?_ | refine stop_convertB ⟨_, _, _, rfl⟩ ?_ | refine stop_eqSlice ⟨_, _, rfl⟩ ?_)
              go_roundw
              case rel => exact ⟨i + 1, _, by omega, by go_num, rfl, by first | rfl | trivial⟩
              case measure => simp [intOf]; omega
            · obtain rfl : i = xs.length := by omega
              go_wp2_with (with_reducible first | refine stop_append ?_ | refine stop_copy ?_ | refine stop_make ?_ | refine stop_lookup ?_ | refine stop_update ?_ | refine stop_slice ?_ | refine stop_range ?_ | refine stop_next ?_ | refine stop_convert ⟨_, rfl⟩ ?_ | refine stop_convertB ⟨_, _, _, rfl⟩ ?_ | refine stop_eqSlice ⟨_, _, rfl⟩ ?_)
              go_roundw
              case rel => exact ⟨k + 1, _, by omega, by go_num, rfl, hcB⟩
              case measure => simp [intOf]; omega
    · obtain rfl : k = l.length := by omega
      have b1 := hc1.cell a1 (not_no _)
      have b2 := hc1.cell a2 (not_no _)
      obtain ⟨wA, rfl⟩ : ∃ W : World, W = wr := ⟨_, rfl⟩
      go_wp2_with (with_reducible first | refine stop_append ?_ | refine stop_copy ?_ | refine stop_make ?_ | refine stop_lookup ?_ | refine stop_update ?_ | refine stop_slice ?_ | refine stop_range ?_ | refine stop_next ?_ | refine stop_convert ⟨_, rfl⟩ ?_ | refine stop_convertB ⟨_, _, _, rfl⟩ ?_ | refine stop_eqSlice ⟨_, _, rfl⟩ ?_)
      go_loopw [5, 13, 68] (fun v5 _ v68 wr => ∃ (j : Nat) (n : Int), j ≤ s.length ∧ v68 = .int .i64 j ∧ v5 = .int .i64 n ∧ wr = wA) (fun _ _ v68 _ => s.length - (intOf v68).toNat)
      case atStart => exact ⟨0, _, by omega, rfl, rfl, rfl⟩
      case round =>
        obtain ⟨j, m, hj, rfl, rfl, rfl⟩ := hrel
        by_cases hlj : j < s.length
        · obtain ⟨b2, o2, d, rfl, _, hbl2, ⟨vj, rfl, hvj⟩, ha⟩ := (Hs.out.keepNo hc1).get j hlj
          have ha0 := ha 0 _ rfl
          simp only [show Rep.n (List Int) = 1 from rfl, Nat.mul_one, Nat.add_zero] at ha0
          obtain ⟨Aj, cj, rfl⟩ := hvj.slice
          generalize s[j].length = nj at *
          clear ha hvj
          go_wp2_with (with_reducible first | refine stop_append ?_ | refine stop_copy ?_ | refine stop_make ?_ | refine stop_lookup ?_ | refine stop_update ?_ | refine stop_slice ?_ | refine stop_range ?_ | refine stop_next ?_ | refine stop_convert ⟨_, rfl⟩ ?_ | refine stop_convertB ⟨_, _, _, rfl⟩ ?_ | refine stop_eqSlice ⟨_, _, rfl⟩ ?_)
          go_roundw
          case rel => exact ⟨j + 1, _, by omega, by go_num, rfl, by first | rfl | trivial⟩
          case measure => simp [intOf]; omega
        · obtain rfl : j = s.length := by omega
          have hcw := hc0.trans hc1
          by_cases h1 : l.length ≤ 40
          · have h1' : (l.length : Int) ≤ 40 := by omega
            by_cases h2 : m ≤ 2000
            all_goals
              go_wp2_with (with_reducible first | refine stop_append ?_ | refine stop_copy ?_ | refine stop_make ?_ | refine stop_lookup ?_ | refine stop_update ?_ | refine stop_slice ?_ | refine stop_range ?_ | refine stop_next ?_ | refine stop_convert ⟨_, rfl⟩ ?_ | refine stop_convertB ⟨_, _, _, rfl⟩ ?_ | refine stop_eqSlice ⟨_, _, rfl⟩ ?_)
              go_ret
              exact ⟨⟨_, rfl⟩, hcw⟩
          · have h1' : ¬ (l.length : Int) ≤ 40 := by omega
            go_wp2_with (with_reducible first | refine stop_append ?_ | refine stop_copy ?_ | refine stop_make ?_ | refine stop_lookup ?_ | refine stop_update ?_ | refine stop_slice ?_ | refine stop_range ?_ | refine stop_next ?_ | refine stop_convert ⟨_, rfl⟩ ?_ | refine stop_convertB ⟨_, _, _, rfl⟩ ?_ | refine stop_eqSlice ⟨_, _, rfl⟩ ?_)
            go_ret
            exact ⟨⟨_, rfl⟩, hcw⟩
theorem info_rent : Info Try.prog 52 (.agg #[.int .i64 0, .int .i64 0, .slice none 0 0, .int .i64 0, .int .i64 0, .int .i64 0]) 6 64 := by unfold Info; kernel_rfl
set_option maxRecDepth 100000 in
set_option maxHeartbeats 1000000 in
theorem mine14_any (v : Value) (l : List Ent) (w : World) (h : Sl No w v l) (hl : l.length * 64 ≤ 140737488355328) :
    Calls Try.prog 34 #[v] w fun e w' => ∃ v', e = .returned v' ∧ Chg No w w' ∧ Sl No w' v' l := by
  obtain ⟨A, c, rfl⟩ := h.slice
  have H := Lib.hid h
  clear h
  go_enter Try.func34, Try.ntmps34
  go_wp2_with (with_reducible first | refine stop_append ?_ | refine stop_copy ?_ | refine stop_make ?_ | refine stop_lookup ?_ | refine stop_update ?_ | refine stop_slice ?_ | refine stop_range ?_ | refine stop_next ?_ | refine stop_convert ⟨_, rfl⟩ ?_ | refine stop_convertB ⟨_, _, _, rfl⟩ ?_ | refine stop_eqSlice ⟨_, _, rfl⟩ ?_)
  go_loopw [3, 5, 8] (fun v3 _ v8 wr => ∃ k : Nat, k ≤ l.length ∧ v8 = .int .i64 k ∧ Chg No w wr ∧ Cb.Own No wr w.heap.size 58 v3 (l.take k)) (fun _ _ v8 _ => l.length - (intOf v8).toNat)
  case atStart => exact ⟨0, by omega, rfl, Chg.refl _ _, Cb.Own.nil _ _ _ _⟩
  case round =>
    obtain ⟨k, hk, rfl, hc1, hown⟩ := hrel
    by_cases hlt : k < l.length
    · have hgs : Sl (Ge w.heap.size) wr (.slice A l.length c) l := (Sl.up H.out (Nat.le_refl _)).keepNo hc1
      obtain ⟨b, o, vc, rfl, hnb, hbl, hsv, a0, a1, a2, a3, a4, a5⟩ := ent_get hgs k hlt
      have htk := List.take_succ_eq_append_getElem hlt
      clear hgs
      generalize l[k] = x at a0 a1 a2 a3 a4 a5 hsv htk
      have Hsv := Lib.hid hsv
      have Hcs := Lib.hid (ent_mk x hsv)
      obtain ⟨n, kd, cut, tag, t, u⟩ := x
      simp only [entC] at a0 a1 a2 a3 a4 a5 Hcs
      obtain ⟨Av, cv, rfl⟩ := hsv.slice
      have hlen : (l.take k).length = k := by simp; omega
      generalize l.take k = acc at hlen htk hown
      have Htk := Lib.hid htk
      have Hlen := Lib.hid hlen
      obtain ⟨A3, c3, rfl⟩ := hown.slice
      have Hown := Lib.hid hown
      clear hsv hown htk hlen
      go_wp2_with (with_reducible first | refine stop_append ?_ | refine stop_copy ?_ | refine stop_make ?_ | refine stop_lookup ?_ | refine stop_update ?_ | refine stop_slice ?_ | refine stop_range ?_ | refine stop_next ?_ | refine stop_convert ⟨_, rfl⟩ ?_ | refine stop_convertB ⟨_, _, _, rfl⟩ ?_ | refine stop_eqSlice ⟨_, _, rfl⟩ ?_)
      have hca := (Chg.refl No wr).alloc (.cells #[.int .i64 n, .int .i64 kd, .slice Av cut.length cv, .int .i64 tag, .int .i64 t, .int .i64 u] 52)
      have hcb := hca.alloc (.cells #[.int .i64 n, .int .i64 kd, .slice Av cut.length cv, .int .i64 tag, .int .i64 t, .int .i64 u] 58)
      generalize hw4 : wr.alloc (.cells #[.int .i64 n, .int .i64 kd, .slice Av cut.length cv, .int .i64 tag, .int .i64 t, .int .i64 u] 52) = w4 at hca hcb ⊢
      have e4 : w4.heap.size = wr.heap.size + 1 := by rw [← hw4]; simp
      rw [← e4]
      have hobl : ∀ i, OB (.slice A3 acc.length c3) i → w.heap.size ≤ i ∧ i < wr.heap.size := fun i hi => Hown.out.lt i hi
      have hlit : Sl (OB (.slice A3 acc.length c3)) (w4.alloc (.cells #[.int .i64 n, .int .i64 kd, .slice Av cut.length cv, .int .i64 tag, .int .i64 t, .int .i64 u] 58)) (.slice (some ⟨w4.heap.size, 0, none⟩) 1 1) [(n, kd, cut, tag, t, u)] :=
        Sl.lit1 rfl (Rep.weak (Rep.keep Hcs.out hca.of_no) (fun i _ hi => (hobl i hi).1)) (fun hi => by have := hobl _ hi; omega)
      refine step_append_sl (α := Ent) (F := No) (G := OB (.slice A3 acc.length c3)) Try.underlying28 info_ent rfl (Hown.out.keep hcb (fun _ _ f => f) (fun _ _ f => f)) rfl rfl hlit (fun i _ hi => hi.elim (fun f => f.elim) id) (by have := Hlen.out; simp; omega) (by have := Hlen.out; simp [ent_n]; omega) (by have := hc1.size; have := hcb.size; omega) ?_
      intro v6 w6 hown6 hg6
      rw [← Htk.out] at hown6
      have hcw : Chg No w w6 := (hc1.trans hcb).grew hg6 (fun i hi => .inr (hobl i hi).1)
      have Hown6 := Lib.hid hown6
      clear hown6 hg6 hlit
      go_wp2_with (with_reducible first | refine stop_append ?_ | refine stop_copy ?_ | refine stop_make ?_ | refine stop_lookup ?_ | refine stop_update ?_ | refine stop_slice ?_ | refine stop_range ?_ | refine stop_next ?_ | refine stop_convert ⟨_, rfl⟩ ?_ | refine stop_convertB ⟨_, _, _, rfl⟩ ?_ | refine stop_eqSlice ⟨_, _, rfl⟩ ?_)
      go_roundw
      case rel => exact ⟨k + 1, by omega, by go_num, hcw, Hown6.out⟩
      case measure => simp [intOf]; omega
    · obtain rfl : k = l.length := by omega
      rw [List.take_length] at hown
      have Hown := Lib.hid hown
      obtain ⟨A3, c3, rfl⟩ := hown.slice
      clear hown
      go_wp2_with (with_reducible first | refine stop_append ?_ | refine stop_copy ?_ | refine stop_make ?_ | refine stop_lookup ?_ | refine stop_update ?_ | refine stop_slice ?_ | refine stop_range ?_ | refine stop_next ?_ | refine stop_convert ⟨_, rfl⟩ ?_ | refine stop_convertB ⟨_, _, _, rfl⟩ ?_ | refine stop_eqSlice ⟨_, _, rfl⟩ ?_)
      go_ret
      exact ⟨_, rfl, hc1, Hown.out.sl (fun _ _ f => f)⟩
set_option maxRecDepth 100000 in
set_option maxHeartbeats 1000000 in
theorem entries14_any (v : Value) (l : List Ent) (w : World) (h : Sl No w v l) (hl : l.length * 64 ≤ 140737488355328) :
    Calls Try.prog 80 #[v] w fun e w' => ∃ v', e = .returned v' ∧ Chg No w w' ∧ Sl No w' v' l := by
  obtain ⟨A, c, rfl⟩ := h.slice
  have H := Lib.hid h
  clear h
  go_enter Try.func80, Try.ntmps80
  go_wp2_with (with_reducible first | refine stop_append ?_ | refine stop_copy ?_ | refine stop_make ?_ | refine stop_lookup ?_ | refine stop_update ?_ | refine stop_slice ?_ | refine stop_range ?_ | refine stop_next ?_ | refine stop_convert ⟨_, rfl⟩ ?_ | refine stop_convertB ⟨_, _, _, rfl⟩ ?_ | refine stop_eqSlice ⟨_, _, rfl⟩ ?_)
  go_loopw [3, 5, 8] (fun v3 _ v8 wr => ∃ k : Nat, k ≤ l.length ∧ v8 = .int .i64 k ∧ Chg No w wr ∧ Cb.Own No wr w.heap.size 52 v3 (l.take k)) (fun _ _ v8 _ => l.length - (intOf v8).toNat)
  case atStart => exact ⟨0, by omega, rfl, Chg.refl _ _, Cb.Own.nil _ _ _ _⟩
  case round =>
    obtain ⟨k, hk, rfl, hc1, hown⟩ := hrel
    by_cases hlt : k < l.length
    · have hgs : Sl (Ge w.heap.size) wr (.slice A l.length c) l := (Sl.up H.out (Nat.le_refl _)).keepNo hc1
      obtain ⟨b, o, vc, rfl, hnb, hbl, hsv, a0, a1, a2, a3, a4, a5⟩ := ent_get hgs k hlt
      have htk := List.take_succ_eq_append_getElem hlt
      clear hgs
      generalize l[k] = x at a0 a1 a2 a3 a4 a5 hsv htk
      have Hsv := Lib.hid hsv
      have Hcs := Lib.hid (ent_mk x hsv)
      obtain ⟨n, kd, cut, tag, t, u⟩ := x
      simp only [entC] at a0 a1 a2 a3 a4 a5 Hcs
      obtain ⟨Av, cv, rfl⟩ := hsv.slice
      have hlen : (l.take k).length = k := by simp; omega
      generalize l.take k = acc at hlen htk hown
      have Htk := Lib.hid htk
      have Hlen := Lib.hid hlen
      obtain ⟨A3, c3, rfl⟩ := hown.slice
      have Hown := Lib.hid hown
      clear hsv hown htk hlen
      go_wp2_with (with_reducible first | refine stop_append ?_ | refine stop_copy ?_ | refine stop_make ?_ | refine stop_lookup ?_ | refine stop_update ?_ | refine stop_slice ?_ | refine stop_range ?_ | refine stop_next ?_ | refine stop_convert ⟨_, rfl⟩ ?_ | refine stop_convertB ⟨_, _, _, rfl⟩ ?_ | refine stop_eqSlice ⟨_, _, rfl⟩ ?_)
      have hca := (Chg.refl No wr).alloc (.cells #[.int .i64 n, .int .i64 kd, .slice Av cut.length cv, .int .i64 tag, .int .i64 t, .int .i64 u] 58)
      have hcb := hca.alloc (.cells #[.int .i64 n, .int .i64 kd, .slice Av cut.length cv, .int .i64 tag, .int .i64 t, .int .i64 u] 52)
      generalize hw4 : wr.alloc (.cells #[.int .i64 n, .int .i64 kd, .slice Av cut.length cv, .int .i64 tag, .int .i64 t, .int .i64 u] 58) = w4 at hca hcb ⊢
      have e4 : w4.heap.size = wr.heap.size + 1 := by rw [← hw4]; simp
      rw [← e4]
      have hobl : ∀ i, OB (.slice A3 acc.length c3) i → w.heap.size ≤ i ∧ i < wr.heap.size := fun i hi => Hown.out.lt i hi
      have hlit : Sl (OB (.slice A3 acc.length c3)) (w4.alloc (.cells #[.int .i64 n, .int .i64 kd, .slice Av cut.length cv, .int .i64 tag, .int .i64 t, .int .i64 u] 52)) (.slice (some ⟨w4.heap.size, 0, none⟩) 1 1) [(n, kd, cut, tag, t, u)] :=
        Sl.lit1 rfl (Rep.weak (Rep.keep Hcs.out hca.of_no) (fun i _ hi => (hobl i hi).1)) (fun hi => by have := hobl _ hi; omega)
      refine step_append_sl (α := Ent) (F := No) (G := OB (.slice A3 acc.length c3)) Try.underlying22 info_rent rfl (Hown.out.keep hcb (fun _ _ f => f) (fun _ _ f => f)) rfl rfl hlit (fun i _ hi => hi.elim (fun f => f.elim) id) (by have := Hlen.out; simp; omega) (by have := Hlen.out; simp [ent_n]; omega) (by have := hc1.size; have := hcb.size; omega) ?_
      intro v6 w6 hown6 hg6
      rw [← Htk.out] at hown6
      have hcw : Chg No w w6 := (hc1.trans hcb).grew hg6 (fun i hi => .inr (hobl i hi).1)
      have Hown6 := Lib.hid hown6
      clear hown6 hg6 hlit
      go_wp2_with (with_reducible first | refine stop_append ?_ | refine stop_copy ?_ | refine stop_make ?_ | refine stop_lookup ?_ | refine stop_update ?_ | refine stop_slice ?_ | refine stop_range ?_ | refine stop_next ?_ | refine stop_convert ⟨_, rfl⟩ ?_ | refine stop_convertB ⟨_, _, _, rfl⟩ ?_ | refine stop_eqSlice ⟨_, _, rfl⟩ ?_)
      go_roundw
      case rel => exact ⟨k + 1, by omega, by go_num, hcw, Hown6.out⟩
      case measure => simp [intOf]; omega
    · obtain rfl : k = l.length := by omega
      rw [List.take_length] at hown
      have Hown := Lib.hid hown
      obtain ⟨A3, c3, rfl⟩ := hown.slice
      clear hown
      go_wp2_with (with_reducible first | refine stop_append ?_ | refine stop_copy ?_ | refine stop_make ?_ | refine stop_lookup ?_ | refine stop_update ?_ | refine stop_slice ?_ | refine stop_range ?_ | refine stop_next ?_ | refine stop_convert ⟨_, rfl⟩ ?_ | refine stop_convertB ⟨_, _, _, rfl⟩ ?_ | refine stop_eqSlice ⟨_, _, rfl⟩ ?_)
      go_ret
      exact ⟨_, rfl, hc1, Hown.out.sl (fun _ _ f => f)⟩
end Go.Proofs.Ytbjpoamnglfjeaa


/- Walks of the document's chapter 14: what its register is in memory; Find, Many, Start. -/
set_option linter.unusedVariables false
set_option linter.unusedSimpArgs false
namespace Go.Proofs.Ytbjpoamnglfjeaa
open Go.RowKit Cb

def cfgsR (rows : List Rw) : List Cfg := rows.map (fun r => (r.1, r.2.1, r.2.2.1))
def tailsR (rows : List Rw) : List (List Ent) := rows.dropLast.map (fun r => r.2.2.2.1)
theorem cfgsR_len (rows : List Rw) : (cfgsR rows).length = rows.length := by simp [cfgsR]
theorem tailsR_len (rows : List Rw) : (tailsR rows).length = rows.length - 1 := by simp [tailsR]
theorem cfgsR_get (rows : List Rw) (i : Nat) (h : i < rows.length) : (cfgsR rows)[i]'(by rw [cfgsR_len]; exact h) = (rows[i].1, rows[i].2.1, rows[i].2.2.1) := by simp [cfgsR]
theorem tailsR_get (rows : List Rw) (i : Nat) (h : i < rows.length - 1) : (tailsR rows)[i]'(by rw [tailsR_len]; exact h) = (rows[i]'(by omega)).2.2.2.1 := by simp [tailsR]
/-- The document's register in memory. -/
structure RefS (F : Nat → Prop) (w : World) (vL vT : Value) (rows : List Rw) : Prop where
  l : Sl F w vL (cfgsR rows)
  t : Sl F w vT (tailsR rows)
def regV (vL vT : Value) : Value := .agg #[vL, vT]
theorem RefS.keepNo {F : Nat → Prop} {w w' : World} {vL vT : Value} {rows : List Rw} (h : RefS F w vL vT rows) (hc : Chg No w w') : RefS F w' vL vT rows := ⟨h.l.keepNo hc, h.t.keepNo hc⟩
theorem RefS.no {F : Nat → Prop} {w : World} {vL vT : Value} {rows : List Rw} (h : RefS F w vL vT rows) : RefS No w vL vT rows := ⟨h.l.no, h.t.no⟩
theorem cfg_get {F : Nat → Prop} {w : World} {A : Option Addr} {n c : Nat} {rows : List Rw} (h : Sl F w (.slice A n c) (cfgsR rows)) (i : Nat) (hi : i < rows.length) :
    ∃ b o vq vs, A = some ⟨b, o, none⟩ ∧ b < w.heap.size ∧ Sl F w vq rows[i].2.1 ∧ Sl F w vs rows[i].2.2.1 ∧ w.cell? ⟨b, o + i * 3, none⟩ = some (.int .i64 rows[i].1) ∧ w.cell? ⟨b, o + i * 3 + 1, none⟩ = some vq ∧ w.cell? ⟨b, o + i * 3 + 2, none⟩ = some vs := by
  obtain ⟨b, o, d, rfl, hF, hb, hd, ha⟩ := h.get i (by rw [cfgsR_len]; exact hi)
  rw [cfgsR_get rows i hi] at hd
  obtain ⟨d3, d4, rfl, rfl, ⟨d5, d6, rfl, ⟨vq, rfl, hq⟩, ⟨vs, rfl, hs⟩⟩⟩ := hd
  exact ⟨b, o, vq, vs, rfl, hb, hq, hs, ha 0 _ rfl, ha 1 _ rfl, ha 2 _ rfl⟩
theorem tail_get {F : Nat → Prop} {w : World} {A : Option Addr} {n c : Nat} {rows : List Rw} (h : Sl F w (.slice A n c) (tailsR rows)) (i : Nat) (hi : i < rows.length - 1) :
    ∃ b o vt, A = some ⟨b, o, none⟩ ∧ b < w.heap.size ∧ Sl F w vt (rows[i]'(by omega)).2.2.2.1 ∧ w.cell? ⟨b, o + i, none⟩ = some vt := by
  obtain ⟨b, o, d, rfl, hF, hb, ⟨vt, rfl, ht⟩, ha⟩ := h.get i (by rw [tailsR_len]; exact hi)
  rw [tailsR_get rows i hi] at ht
  have := ha 0 _ rfl
  simp only [show Rep.n (List Ent) = 1 from rfl, Nat.mul_one, Nat.add_zero] at this
  exact ⟨b, o, vt, rfl, hb, ht, this⟩
def atI (o : Option Nat) : Int := match o with | some i => i | none => -1
set_option maxRecDepth 100000 in
set_option maxHeartbeats 4000000 in
theorem dfind_any (vL vT : Value) (rows : List Rw) (t : Int) (w : World) (hs : RefS No w vL vT rows) (hi : RowsI rows) :
    Calls Try.prog 75 #[regV vL vT, .int .i64 t] w fun e w' => e = .returned (.int .i64 (atI (atR rows t))) ∧ Chg No w w' := by
  have Hs := Lib.hid (fun W (hW : Chg No w W) => (hs.keepNo hW).l)
  obtain ⟨A, c, rfl⟩ := hs.l.slice
  obtain ⟨B, d, rfl⟩ := hs.t.slice
  have h64 := hi.2.1
  have Hf := Lib.hid (fun i (h : i < rows.length) => first_get hi i h)
  have Hin := Lib.hid (fun i (h : i < rows.length) (ht : rows[i].1 = t) => show atR rows t = some i from atR_in h (by rw [← ht, first_get hi i h]))
  have Hout := Lib.hid (fun (h : ∀ i (hi : i < rows.length), rows[i].1 ≠ t) => show atR rows t = none from by
    rcases e : atR rows t with _ | i
    · rfl
    · obtain ⟨h1, h2⟩ := atR_some hi.1 e
      exact absurd (by rw [first_get hi i h1, h2]) (h i h1))
  rw [cfgsR_len] at *
  generalize (tailsR rows).length = nt at *
  obtain ⟨R, hR⟩ : ∃ R, R = atR rows t := ⟨_, rfl⟩
  rw [← hR] at Hin Hout ⊢
  clear hs hi hR
  unfold regV
  have o1 := alloc_obj w (.cells #[.slice A rows.length c, .slice B nt d] 82)
  have hc0 := (Chg.refl No w).alloc (.cells #[.slice A rows.length c, .slice B nt d] 82)
  have a0 := cell_obj (i := 0) o1 rfl
  go_enter Try.func75, Try.ntmps75
  go_wp2_with (with_reducible first | refine stop_append ?_ | refine stop_copy ?_ | refine stop_make ?_ | refine stop_lookup ?_ | refine stop_update ?_ | refine stop_slice ?_ | refine stop_range ?_ | refine stop_next ?_ | refine stop_convert ⟨_, rfl⟩ ?_ | refine stop_convertB ⟨_, _, _, rfl⟩ ?_ | refine stop_eqSlice ⟨_, _, rfl⟩ ?_)
  generalize w.alloc (.cells #[.slice A rows.length c, .slice B nt d] 82) = w0 at *
  generalize w.heap.size = b0 at *
  clear o1
  go_loopw [5] (fun v5 wr => ∃ k : Nat, k ≤ rows.length ∧ v5 = .int .i64 k ∧ Chg No w0 wr ∧ ∀ i (hi : i < rows.length), i < k → rows[i].1 ≠ t) (fun v5 _ => rows.length - (intOf v5).toNat)
  case atStart => exact ⟨0, by omega, rfl, Chg.refl _ _, fun i hi h => by omega⟩
  case round =>
    obtain ⟨k, hk, rfl, hc, hall⟩ := hrel
    have Hall := Lib.hid hall
    replace a0 := hc.cell a0 (not_no _)
    have hcr := hc0.trans hc
    clear hall
    by_cases hlt : k < rows.length
    · obtain ⟨b, o, vq, vs, rfl, hb, -, -, e0, -, -⟩ := cfg_get (Hs.out wr hcr) k hlt
      have Hk := Lib.hid (Hin.out k hlt)
      by_cases hy : rows[k].1 = t
      · have Hr := Lib.hid (Hk.out hy)
        rw [hy] at e0
        clear hy Hk
        go_wp2_with (with_reducible first | refine stop_append ?_ | refine stop_copy ?_ | refine stop_make ?_ | refine stop_lookup ?_ | refine stop_update ?_ | refine stop_slice ?_ | refine stop_range ?_ | refine stop_next ?_ | refine stop_convert ⟨_, rfl⟩ ?_ | refine stop_convertB ⟨_, _, _, rfl⟩ ?_ | refine stop_eqSlice ⟨_, _, rfl⟩ ?_)
        go_ret
        exact ⟨by rw [Hr.out]; rfl, hcr⟩
      · have Hy := Lib.hid hy
        generalize hx : rows[k].1 = x at *
        have k1 : (x == t) = false := beq_false_of_ne hy
        have Hx := Lib.hid hx
        clear hy hx Hk
        go_wp2_with (with_reducible first | refine stop_append ?_ | refine stop_copy ?_ | refine stop_make ?_ | refine stop_lookup ?_ | refine stop_update ?_ | refine stop_slice ?_ | refine stop_range ?_ | refine stop_next ?_ | refine stop_convert ⟨_, rfl⟩ ?_ | refine stop_convertB ⟨_, _, _, rfl⟩ ?_ | refine stop_eqSlice ⟨_, _, rfl⟩ ?_)
        go_roundw
        case rel => exact ⟨k + 1, by omega, by go_num, hc, fun i hi h => by
          by_cases hik : i = k
          · subst hik; exact fun e => Hy.out (Hx.out ▸ e)
          · exact Hall.out i hi (by omega)⟩
        case measure => simp [intOf]; omega
    · obtain rfl : k = rows.length := by omega
      have Hr := Lib.hid (Hout.out (fun i hi => Hall.out i hi hi))
      go_wp2_with (with_reducible first | refine stop_append ?_ | refine stop_copy ?_ | refine stop_make ?_ | refine stop_lookup ?_ | refine stop_update ?_ | refine stop_slice ?_ | refine stop_range ?_ | refine stop_next ?_ | refine stop_convert ⟨_, rfl⟩ ?_ | refine stop_convertB ⟨_, _, _, rfl⟩ ?_ | refine stop_eqSlice ⟨_, _, rfl⟩ ?_)
      go_ret
      exact ⟨by rw [Hr.out]; rfl, hcr⟩
set_option maxRecDepth 100000 in
set_option maxHeartbeats 4000000 in
theorem dmany_any (vL vT : Value) (rows : List Rw) (i : Nat) (w : World) (hs : RefS No w vL vT rows) (hi : RowsI rows) (hlt : i < rows.length - 1) :
    Calls Try.prog 81 #[regV vL vT, .int .i64 i] w fun e w' => e = .returned (.int .i64 (manyR (rows[i]'(by omega)))) ∧ Chg No w w' := by
  obtain ⟨A, c, rfl⟩ := hs.l.slice
  obtain ⟨B, d, rfl⟩ := hs.t.slice
  have hir : i < rows.length := by omega
  obtain ⟨b, o, vq, vs, rfl, hb, sq, ss, e0, e1, e2⟩ := cfg_get hs.l i hir
  obtain ⟨b', o', vt, rfl, hb', st, f0⟩ := tail_get hs.t i hlt
  obtain ⟨-, hr, htl, htc⟩ := hi.2.2 i hir
  obtain ⟨-, h8, -⟩ := right_small hr
  have h1 := (rightC_iff.1 hr).2.2.1.1
  have hML := lastF_len rows[i].2.2.2.1 rows[i].2.2.1.length h8 htc
  have Hlast := Lib.hid (fun W (hW : Chg No w W) => dlast_any vt rows[i].2.2.2.1 rows[i].2.2.1.length W (st.keepNo hW) htl (fun e he => by have := htc e he; omega) h1 h8)
  obtain ⟨M, hM⟩ : ∃ M, M = manyR rows[i] := ⟨_, rfl⟩
  rw [← hM]
  have HM := Lib.hid (show M = total (lastF rows[i].2.2.2.1 rows[i].2.2.1.length) from hM)
  obtain ⟨As, cs, rfl⟩ := ss.slice
  obtain ⟨At0, ct, rfl⟩ := st.slice
  obtain ⟨nt, hnt⟩ : ∃ n, n = (tailsR rows).length := ⟨_, rfl⟩
  have hilt : i < nt := by rw [hnt, tailsR_len]; exact hlt
  rw [cfgsR_len, ← hnt]
  have Hnt := Lib.hid hnt
  clear hnt
  generalize lastF rows[i].2.2.2.1 rows[i].2.2.1.length = LF at *
  generalize rows[i].2.2.1.length = ns at *
  generalize rows[i].2.2.2.1.length = nl at *
  clear hs hi sq ss st hr htl htc hM h8 h1 e0 e1
  obtain ⟨n, hn⟩ : ∃ n, n = rows.length := ⟨_, rfl⟩
  rw [← hn] at hir ⊢
  clear hn hlt
  unfold regV
  have o1 := alloc_obj w (.cells #[.slice (some ⟨b, o, none⟩) n c, .slice (some ⟨b', o', none⟩) nt d] 82)
  have hc0 := (Chg.refl No w).alloc (.cells #[.slice (some ⟨b, o, none⟩) n c, .slice (some ⟨b', o', none⟩) nt d] 82)
  have a0 := cell_obj (i := 0) o1 rfl
  have a1 := cell_obj (i := 1) o1 rfl
  replace e2 := hc0.cell e2 (not_no _)
  replace f0 := hc0.cell f0 (not_no _)
  go_enter Try.func81, Try.ntmps81
  go_wp2_with (with_reducible first | refine stop_append ?_ | refine stop_copy ?_ | refine stop_make ?_ | refine stop_lookup ?_ | refine stop_update ?_ | refine stop_slice ?_ | refine stop_range ?_ | refine stop_next ?_ | refine stop_convert ⟨_, rfl⟩ ?_ | refine stop_convertB ⟨_, _, _, rfl⟩ ?_ | refine stop_eqSlice ⟨_, _, rfl⟩ ?_)
  generalize w.alloc (.cells #[.slice (some ⟨b, o, none⟩) n c, .slice (some ⟨b', o', none⟩) nt d] 82) = w0 at *
  generalize w.heap.size = b0 at *
  have HS := Lib.hid (show ∀ W : World, Chg No w0 W → (fun W => (W.cell? ⟨b0, 0, none⟩ = some (.slice (some ⟨b, o, none⟩) n c) ∧ W.cell? ⟨b0, 1, none⟩ = some (.slice (some ⟨b', o', none⟩) nt d)) ∧ (W.cell? ⟨b, o + i * 3 + 2, none⟩ = some (.slice As ns cs) ∧ W.cell? ⟨b', o' + i, none⟩ = some (.slice At0 nl ct)) ∧ Chg No w0 W) W from fun W hW => ⟨⟨hW.cell a0 (not_no _), hW.cell a1 (not_no _)⟩, ⟨hW.cell e2 (not_no _), hW.cell f0 (not_no _)⟩, hW⟩)
  have cd := (Chg.refl No w0).drew
  refine rt_start (fun W => (W.cell? ⟨b0, 0, none⟩ = some (.slice (some ⟨b, o, none⟩) n c) ∧ W.cell? ⟨b0, 1, none⟩ = some (.slice (some ⟨b', o', none⟩) nt d)) ∧ (W.cell? ⟨b, o + i * 3 + 2, none⟩ = some (.slice As ns cs) ∧ W.cell? ⟨b', o' + i, none⟩ = some (.slice At0 nl ct)) ∧ Chg No w0 W) (by kernel_rfl) ?_
  ((refine rt_yes (i := 0) (oi := { dst := some 5, op := .fieldAddr 82 (.tmp 2) 1, type := 0, pos := "ref.go:57", after := #[], guard := none }) (v := ?_) rfl (by kernel_rfl) (by kernel_rfl) (by kernel_rfl) (fun _ _ _ h => h) rfl ?_ ?_); rotate_left; focus (intro W hW; (try dsimp only at hW); go_split_ands; go_simp; (try (simp (disch := omega) only [IntWalk.i64_in]; (try go_simp))); (try (split; (next => omega); (try go_simp))); try rfl; done))
  try simp only [Act.put, List.setIfInBounds_toArray, List.set_cons_zero, List.set_cons_succ]
  ((refine rt_yes (i := 1) (oi := { dst := some 6, op := .load 80 (.tmp 5), type := 80, pos := "ref.go:57", after := #[{ on := 0, ground := .data }], guard := none }) (v := ?_) rfl (by kernel_rfl) (by kernel_rfl) (by kernel_rfl) (fun _ _ _ h => h) rfl ?_ ?_); rotate_left; focus (intro W hW; (try dsimp only at hW); go_split_ands; go_simp; (try (simp (disch := omega) only [IntWalk.i64_in]; (try go_simp))); (try (split; (next => omega); (try go_simp))); try rfl; done))
  try simp only [Act.put, List.setIfInBounds_toArray, List.set_cons_zero, List.set_cons_succ]
  ((refine rt_yes (i := 2) (oi := { dst := some 7, op := .move (.tmp 1), type := 3, pos := "ref.go:57", after := #[], guard := none }) (v := ?_) rfl (by kernel_rfl) (by kernel_rfl) (by kernel_rfl) (fun _ _ _ h => h) rfl ?_ ?_); rotate_left; focus (intro W hW; (try dsimp only at hW); go_split_ands; go_simp; (try (simp (disch := omega) only [IntWalk.i64_in]; (try go_simp))); (try (split; (next => omega); (try go_simp))); try rfl; done))
  try simp only [Act.put, List.setIfInBounds_toArray, List.set_cons_zero, List.set_cons_succ]
  ((refine rt_yes (i := 3) (oi := { dst := some 8, op := .indexAddr 80 (.tmp 6) (.tmp 7), type := 0, pos := "ref.go:57", after := #[{ on := 1, ground := .data }, { on := 2, ground := .data }], guard := none }) (v := ?_) rfl (by kernel_rfl) (by kernel_rfl) (by kernel_rfl) (fun _ _ _ h => h) rfl ?_ ?_); rotate_left; focus (intro W hW; (try dsimp only at hW); go_split_ands; go_simp; (try (simp (disch := omega) only [IntWalk.i64_in]; (try go_simp))); (try (split; (next => omega); (try go_simp))); try rfl; done))
  try simp only [Act.put, List.setIfInBounds_toArray, List.set_cons_zero, List.set_cons_succ]
  ((refine rt_yes (i := 4) (oi := { dst := some 9, op := .load 22 (.tmp 8), type := 22, pos := "ref.go:57", after := #[{ on := 3, ground := .data }], guard := none }) (v := ?_) rfl (by kernel_rfl) (by kernel_rfl) (by kernel_rfl) (fun _ _ _ h => h) rfl ?_ ?_); rotate_left; focus (intro W hW; (try dsimp only at hW); go_split_ands; go_simp; (try (simp (disch := omega) only [IntWalk.i64_in]; (try go_simp))); (try (split; (next => omega); (try go_simp))); try rfl; done))
  try simp only [Act.put, List.setIfInBounds_toArray, List.set_cons_zero, List.set_cons_succ]
  ((refine rt_yes (i := 5) (oi := { dst := some 10, op := .fieldAddr 82 (.tmp 2) 0, type := 0, pos := "ref.go:57", after := #[], guard := none }) (v := ?_) rfl (by kernel_rfl) (by kernel_rfl) (by kernel_rfl) (fun _ _ _ h => h) rfl ?_ ?_); rotate_left; focus (intro W hW; (try dsimp only at hW); go_split_ands; go_simp; (try (simp (disch := omega) only [IntWalk.i64_in]; (try go_simp))); (try (split; (next => omega); (try go_simp))); try rfl; done))
  try simp only [Act.put, List.setIfInBounds_toArray, List.set_cons_zero, List.set_cons_succ]
  ((refine rt_yes (i := 6) (oi := { dst := some 11, op := .load 79 (.tmp 10), type := 79, pos := "ref.go:57", after := #[{ on := 5, ground := .data }], guard := none }) (v := ?_) rfl (by kernel_rfl) (by kernel_rfl) (by kernel_rfl) (fun _ _ _ h => h) rfl ?_ ?_); rotate_left; focus (intro W hW; (try dsimp only at hW); go_split_ands; go_simp; (try (simp (disch := omega) only [IntWalk.i64_in]; (try go_simp))); (try (split; (next => omega); (try go_simp))); try rfl; done))
  try simp only [Act.put, List.setIfInBounds_toArray, List.set_cons_zero, List.set_cons_succ]
  ((refine rt_yes (i := 7) (oi := { dst := some 12, op := .move (.tmp 1), type := 3, pos := "ref.go:57", after := #[], guard := none }) (v := ?_) rfl (by kernel_rfl) (by kernel_rfl) (by kernel_rfl) (fun _ _ _ h => h) rfl ?_ ?_); rotate_left; focus (intro W hW; (try dsimp only at hW); go_split_ands; go_simp; (try (simp (disch := omega) only [IntWalk.i64_in]; (try go_simp))); (try (split; (next => omega); (try go_simp))); try rfl; done))
  try simp only [Act.put, List.setIfInBounds_toArray, List.set_cons_zero, List.set_cons_succ]
  ((refine rt_yes (i := 8) (oi := { dst := some 13, op := .indexAddr 79 (.tmp 11) (.tmp 12), type := 0, pos := "ref.go:57", after := #[{ on := 6, ground := .data }, { on := 7, ground := .data }], guard := none }) (v := ?_) rfl (by kernel_rfl) (by kernel_rfl) (by kernel_rfl) (fun _ _ _ h => h) rfl ?_ ?_); rotate_left; focus (intro W hW; (try dsimp only at hW); go_split_ands; go_simp; (try (simp (disch := omega) only [IntWalk.i64_in]; (try go_simp))); (try (split; (next => omega); (try go_simp))); try rfl; done))
  try simp only [Act.put, List.setIfInBounds_toArray, List.set_cons_zero, List.set_cons_succ]
  ((refine rt_yes (i := 9) (oi := { dst := some 14, op := .fieldAddr 63 (.tmp 13) 2, type := 0, pos := "ref.go:57", after := #[{ on := 8, ground := .data }], guard := none }) (v := ?_) rfl (by kernel_rfl) (by kernel_rfl) (by kernel_rfl) (fun _ _ _ h => h) rfl ?_ ?_); rotate_left; focus (intro W hW; (try dsimp only at hW); go_split_ands; go_simp; (try (simp (disch := omega) only [IntWalk.i64_in]; (try go_simp))); (try (split; (next => omega); (try go_simp))); try rfl; done))
  try simp only [Act.put, List.setIfInBounds_toArray, List.set_cons_zero, List.set_cons_succ]
  ((refine rt_yes (i := 10) (oi := { dst := some 15, op := .load 61 (.tmp 14), type := 61, pos := "ref.go:57", after := #[{ on := 9, ground := .data }], guard := none }) (v := ?_) rfl (by kernel_rfl) (by kernel_rfl) (by kernel_rfl) (fun _ _ _ h => h) rfl ?_ ?_); rotate_left; focus (intro W hW; (try dsimp only at hW); go_split_ands; go_simp; (try (simp (disch := omega) only [IntWalk.i64_in]; (try go_simp))); (try (split; (next => omega); (try go_simp))); try rfl; done))
  try simp only [Act.put, List.setIfInBounds_toArray, List.set_cons_zero, List.set_cons_succ]
  ((refine rt_yes (i := 11) (oi := { dst := some 16, op := .call { callee := .builtin .len, args := #[.tmp 15], argTypes := #[61] }, type := 3, pos := "ref.go:57", after := #[{ on := 10, ground := .data }], guard := none }) (v := ?_) rfl (by kernel_rfl) (by kernel_rfl) (by kernel_rfl) (fun _ _ _ h => h) rfl ?_ ?_); rotate_left; focus (intro W hW; (try dsimp only at hW); go_split_ands; go_simp; (try (simp (disch := omega) only [IntWalk.i64_in]; (try go_simp))); (try (split; (next => omega); (try go_simp))); try rfl; done))
  try simp only [Act.put, List.setIfInBounds_toArray, List.set_cons_zero, List.set_cons_succ]
  refine rt_k (fun W => (W.cell? ⟨b0, 0, none⟩ = some (.slice (some ⟨b, o, none⟩) n c) ∧ W.cell? ⟨b0, 1, none⟩ = some (.slice (some ⟨b', o', none⟩) nt d)) ∧ (W.cell? ⟨b, o + i * 3 + 2, none⟩ = some (.slice As ns cs) ∧ W.cell? ⟨b', o' + i, none⟩ = some (.slice At0 nl ct)) ∧ Chg No w0 W) (i := 12) (oi := { dst := some 17, op := .call { callee := .value (.func 104), args := #[.tmp 9, .tmp 16], argTypes := #[22, 3] }, type := 46, pos := "ref.go:57", after := #[{ on := 4, ground := .data }, { on := 11, ground := .data }], guard := none }) (by kernel_rfl) (HS.out _ cd) (fun _ h => h) rfl (by rfl) (fun K hK => ?_)
  go_simp
  refine (Hlast.out _ (hc0.trans cd)).mono ?_
  rintro e w1 ⟨v1, rfl, hc1, hsl⟩
  have cd1 := cd.trans hc1
  have Htot := Lib.hid (fun W (hW : Chg No w1 W) => rtotal_any No v1 LF W (hsl.keepNo hW) (by omega))
  rw [← HM.out] at Htot
  clear a0 a1 e2 f0 o1 hsl
  refine hK _ _ ?_
  clear hK K
  try simp only [Act.put, List.setIfInBounds_toArray, List.set_cons_zero, List.set_cons_succ]
  refine rt_k (fun W => (W.cell? ⟨b0, 0, none⟩ = some (.slice (some ⟨b, o, none⟩) n c) ∧ W.cell? ⟨b0, 1, none⟩ = some (.slice (some ⟨b', o', none⟩) nt d)) ∧ (W.cell? ⟨b, o + i * 3 + 2, none⟩ = some (.slice As ns cs) ∧ W.cell? ⟨b', o' + i, none⟩ = some (.slice At0 nl ct)) ∧ Chg No w0 W) (i := 13) (oi := { dst := some 18, op := .call { callee := .value (.func 103), args := #[.tmp 17], argTypes := #[46] }, type := 3, pos := "ref.go:57", after := #[{ on := 12, ground := .data }, { on := 12, ground := .chain }], guard := none }) (by kernel_rfl) (HS.out _ cd1) (fun _ h => h) rfl (by rfl) (fun K hK => ?_)
  go_simp
  refine (Htot.out _ (Chg.refl _ _)).mono ?_
  rintro e w2 ⟨rfl, hc2⟩
  have cd2 := cd1.trans hc2
  refine hK _ _ ?_
  clear hK K
  try simp only [Act.put, List.setIfInBounds_toArray, List.set_cons_zero, List.set_cons_succ]
  refine rt_k (fun W => (W.cell? ⟨b0, 0, none⟩ = some (.slice (some ⟨b, o, none⟩) n c) ∧ W.cell? ⟨b0, 1, none⟩ = some (.slice (some ⟨b', o', none⟩) nt d)) ∧ (W.cell? ⟨b, o + i * 3 + 2, none⟩ = some (.slice As ns cs) ∧ W.cell? ⟨b', o' + i, none⟩ = some (.slice At0 nl ct)) ∧ Chg No w0 W) (i := 14) (oi := { dst := some 4, op := .assign (.tmp 18), type := 3, pos := "ref.go:57", after := #[{ on := 13, ground := .data }, { on := 13, ground := .chain }, { on := 0, ground := .phase }, { on := 1, ground := .phase }, { on := 2, ground := .phase }, { on := 3, ground := .phase }, { on := 4, ground := .phase }, { on := 5, ground := .phase }, { on := 6, ground := .phase }, { on := 7, ground := .phase }, { on := 8, ground := .phase }, { on := 9, ground := .phase }, { on := 10, ground := .phase }, { on := 11, ground := .phase }, { on := 12, ground := .phase }, { on := 13, ground := .phase }], guard := none }) (by kernel_rfl) (HS.out _ cd2) (fun _ h => h) rfl (by rfl) (fun K hK => ?_)
  go_simp
  refine hK _ _ ?_
  clear hK K
  try simp only [Act.put, List.setIfInBounds_toArray, List.set_cons_zero, List.set_cons_succ]
  refine rt_done (by kernel_rfl)  ?_
  go_wp2_with (with_reducible first | refine stop_append ?_ | refine stop_copy ?_ | refine stop_make ?_ | refine stop_lookup ?_ | refine stop_update ?_ | refine stop_slice ?_ | refine stop_range ?_ | refine stop_next ?_ | refine stop_convert ⟨_, rfl⟩ ?_ | refine stop_convertB ⟨_, _, _, rfl⟩ ?_ | refine stop_eqSlice ⟨_, _, rfl⟩ ?_)
  go_ret
  exact ⟨rfl, hc0.trans cd2⟩
set_option maxRecDepth 100000 in
set_option maxHeartbeats 4000000 in
theorem dstart_any (vL vT : Value) (rows : List Rw) (t : Int) (w : World) (hs : RefS No w vL vT rows) (hi : RowsI rows) :
    Calls Try.prog 79 #[regV vL vT, .int .i64 t] w fun e w' => e = .returned (.tuple #[.int .i64 (match atR rows t with | some k => startF rows k | none => 0), .int .i64 (match atR rows t with | some _ => 0 | none => 141)]) ∧ Chg No w w' := by
  have Hfind := Lib.hid (fun W (hW : Chg No w W) => dfind_any vL vT rows t W (hs.keepNo hW) hi)
  have Hmany := Lib.hid (fun i (h : i < rows.length - 1) W (hW : Chg No w W) => dmany_any vL vT rows i W (hs.keepNo hW) hi h)
  obtain ⟨A, c, rfl⟩ := hs.l.slice
  obtain ⟨B, d, rfl⟩ := hs.t.slice
  have h64 := hi.2.1
  have Hat := Lib.hid (fun k (h : atR rows t = some k) => (atR_some hi.1 h).1)
  have Hst := Lib.hid (start_succ rows)
  have H0 := Lib.hid (show startF rows 0 = 0 from rfl)
  rw [cfgsR_len] at *
  generalize (tailsR rows).length = nt at *
  unfold regV at *
  clear hs hi
  have o1 := alloc_obj w (.cells #[.slice A rows.length c, .slice B nt d] 82)
  have hc0 := (Chg.refl No w).alloc (.cells #[.slice A rows.length c, .slice B nt d] 82)
  have a0 := cell_obj (i := 0) o1 rfl
  have a1 := cell_obj (i := 1) o1 rfl
  generalize atR rows t = ao at *
  go_enter Try.func79, Try.ntmps79
  go_wp2_with (with_reducible first | refine stop_append ?_ | refine stop_copy ?_ | refine stop_make ?_ | refine stop_lookup ?_ | refine stop_update ?_ | refine stop_slice ?_ | refine stop_range ?_ | refine stop_next ?_ | refine stop_convert ⟨_, rfl⟩ ?_ | refine stop_convertB ⟨_, _, _, rfl⟩ ?_ | refine stop_eqSlice ⟨_, _, rfl⟩ ?_)
  generalize w.alloc (.cells #[.slice A rows.length c, .slice B nt d] 82) = w0 at *
  generalize w.heap.size = b0 at *
  clear o1
  refine (Hfind.out _ hc0).mono ?_
  rintro e w1 ⟨rfl, hc1⟩
  have hcw := hc0.trans hc1
  replace a0 := hc1.cell a0 (not_no _)
  replace a1 := hc1.cell a1 (not_no _)
  rcases ao with _ | k
  · simp only [atI]
    go_wp2_with (with_reducible first | refine stop_append ?_ | refine stop_copy ?_ | refine stop_make ?_ | refine stop_lookup ?_ | refine stop_update ?_ | refine stop_slice ?_ | refine stop_range ?_ | refine stop_next ?_ | refine stop_convert ⟨_, rfl⟩ ?_ | refine stop_convertB ⟨_, _, _, rfl⟩ ?_ | refine stop_eqSlice ⟨_, _, rfl⟩ ?_)
    go_ret2
    exact ⟨rfl, hcw⟩
  · simp only [atI]
    have hk := Hat.out k rfl
    have hk0 : ¬ (k : Int) < 0 := by omega
    go_wp2_with (with_reducible first | refine stop_append ?_ | refine stop_copy ?_ | refine stop_make ?_ | refine stop_lookup ?_ | refine stop_update ?_ | refine stop_slice ?_ | refine stop_range ?_ | refine stop_next ?_ | refine stop_convert ⟨_, rfl⟩ ?_ | refine stop_convertB ⟨_, _, _, rfl⟩ ?_ | refine stop_eqSlice ⟨_, _, rfl⟩ ?_)
    go_loopw [7, 8] (fun v7 v8 wr => ∃ j : Nat, j ≤ k ∧ v8 = .int .i64 j ∧ v7 = .int .i64 (startF rows j) ∧ Chg No w1 wr) (fun _ v8 _ => k - (intOf v8).toNat)
    case atStart => exact ⟨0, by omega, rfl, by rw [H0.out], Chg.refl _ _⟩
    case round =>
      obtain ⟨j, hj, rfl, rfl, hc⟩ := hrel
      have hcr := hcw.trans hc
      replace a0 := hc.cell a0 (not_no _)
      replace a1 := hc.cell a1 (not_no _)
      by_cases hlt : j < k
      · have hjr : j < rows.length := by omega
        have Hm := Lib.hid (Hmany.out j (by omega) wr hcr)
        have Hs1 := Lib.hid (Hst.out j hjr)
        generalize manyR rows[j] = mj at *
        generalize startF rows j = sj at *
        obtain ⟨sn, hsn⟩ : ∃ s, s = startF rows (j + 1) := ⟨_, rfl⟩
        rw [← hsn] at Hs1
        have Hsn := Lib.hid hsn
        clear hsn
        go_wp2_with (with_reducible first | refine stop_append ?_ | refine stop_copy ?_ | refine stop_make ?_ | refine stop_lookup ?_ | refine stop_update ?_ | refine stop_slice ?_ | refine stop_range ?_ | refine stop_next ?_ | refine stop_convert ⟨_, rfl⟩ ?_ | refine stop_convertB ⟨_, _, _, rfl⟩ ?_ | refine stop_eqSlice ⟨_, _, rfl⟩ ?_)
        refine Hm.out.mono ?_
        rintro e w2 ⟨rfl, hc2⟩
        have hc02 := hc.trans hc2
        go_wp2_with (with_reducible first | refine stop_append ?_ | refine stop_copy ?_ | refine stop_make ?_ | refine stop_lookup ?_ | refine stop_update ?_ | refine stop_slice ?_ | refine stop_range ?_ | refine stop_next ?_ | refine stop_convert ⟨_, rfl⟩ ?_ | refine stop_convertB ⟨_, _, _, rfl⟩ ?_ | refine stop_eqSlice ⟨_, _, rfl⟩ ?_)
        go_roundw
        case rel => exact ⟨j + 1, by omega, by go_num, congrArg (Value.int .i64) (by rw [← Hsn.out, Hs1.out]), hc02⟩
        case measure => simp [intOf]; omega
      · obtain rfl : j = k := by omega
        go_wp2_with (with_reducible first | refine stop_append ?_ | refine stop_copy ?_ | refine stop_make ?_ | refine stop_lookup ?_ | refine stop_update ?_ | refine stop_slice ?_ | refine stop_range ?_ | refine stop_next ?_ | refine stop_convert ⟨_, rfl⟩ ?_ | refine stop_convertB ⟨_, _, _, rfl⟩ ?_ | refine stop_eqSlice ⟨_, _, rfl⟩ ?_)
        go_ret2
        exact ⟨rfl, hcr⟩
end Go.Proofs.Ytbjpoamnglfjeaa


/- Walks of the document's chapter 14: Place. -/
set_option linter.unusedVariables false
set_option linter.unusedSimpArgs false
namespace Go.Proofs.Ytbjpoamnglfjeaa
open Go.RowKit Cb

set_option maxRecDepth 100000 in
set_option maxHeartbeats 4000000 in
theorem dplace_no (vL vT : Value) (rows : List Rw) (pos : Int) (w : World) (hs : RefS No w vL vT rows) (hp : pos < 0) :
    Calls Try.prog 42 #[regV vL vT, .int .i64 pos] w fun e w' => e = .returned (.tuple #[.agg #[.int .i64 0, .int .i64 0], .int .i64 1]) ∧ Chg No w w' := by
  obtain ⟨A, c, rfl⟩ := hs.l.slice
  obtain ⟨B, d, rfl⟩ := hs.t.slice
  rw [cfgsR_len] at *
  generalize (tailsR rows).length = nt at *
  clear hs
  unfold regV at *
  have hcA := (Chg.refl No w).alloc (.cells #[.slice A rows.length c, .slice B nt d] 82)
  have hcB := (Chg.refl No (w.alloc (.cells #[.slice A rows.length c, .slice B nt d] 82))).alloc (.cells #[.int .i64 0, .int .i64 0] 50)
  have o4 := alloc_obj (w.alloc (.cells #[.slice A rows.length c, .slice B nt d] 82)) (.cells #[.int .i64 0, .int .i64 0] 50)
  have hz : (w.alloc (.cells #[.slice A rows.length c, .slice B nt d] 82)).heap.size = w.heap.size + 1 := by simp
  rw [hz] at o4
  have hc0 := hcA.trans hcB
  have z0 := cell_obj (i := 0) o4 rfl
  have z1 := cell_obj (i := 1) o4 rfl
  have f0 := free_obj (i := 0) o4
  have f1 := free_obj (i := 1) o4
  clear hcA hcB hz
  go_enter Try.func42, Try.ntmps42
  go_wp2_with (with_reducible first | refine stop_append ?_ | refine stop_copy ?_ | refine stop_make ?_ | refine stop_lookup ?_ | refine stop_update ?_ | refine stop_slice ?_ | refine stop_range ?_ | refine stop_next ?_ | refine stop_convert ⟨_, rfl⟩ ?_ | refine stop_convertB ⟨_, _, _, rfl⟩ ?_ | refine stop_eqSlice ⟨_, _, rfl⟩ ?_)
  refine bodyPost_ret (v := .tuple #[.agg #[.int .i64 0, .int .i64 0], .int .i64 1]) (by simp [results, Try.results42, go_sem, *]) rfl ?_
  refine ⟨rfl, ?_⟩
  repeat (first | exact hc0 | refine Chg.setCell ?_ (.inr (by show w.heap.size ≤ w.heap.size + 1; omega)) _)
set_option maxRecDepth 100000 in
set_option maxHeartbeats 4000000 in
theorem dplace_any (vL vT : Value) (rows : List Rw) (pos : Int) (w : World) (hs : RefS No w vL vT rows) (hi : RegI rows) (hp : 0 ≤ pos) (hp2 : pos ≤ 9223372036854775807) :
    Calls Try.prog 42 #[regV vL vT, .int .i64 pos] w (FindOut (findF rows pos) w) := by
  have Hmany := Lib.hid (fun i (h : i < rows.length - 1) W (hW : Chg No w W) => dmany_any vL vT rows i W (hs.keepNo hW) hi.1 h)
  obtain ⟨A, c, rfl⟩ := hs.l.slice
  obtain ⟨B, d, rfl⟩ := hs.t.slice
  have h64 := hi.1.2.1
  have hi0 := hi.1.1
  have Hcg := Lib.hid (fun i (h : i < rows.length) W (hW : Chg No w W) => cfg_get (hs.keepNo hW).l i h)
  have Hov := Lib.hid hi.2
  have Hfd := Lib.hid (fun k (hk : k < rows.length) x => find_drop hk x)
  have hnt : (tailsR rows).length = rows.length - 1 := tailsR_len rows
  obtain ⟨nt, hntt⟩ : ∃ n, n = (tailsR rows).length := ⟨_, rfl⟩
  have hnl : rows.length = nt + 1 := by omega
  have Hnt := Lib.hid hnl
  rw [cfgsR_len] at *
  rw [← hntt]
  rw [← hntt] at hs Hmany
  have HR := Lib.hid (show findF rows pos = findF (rows.drop 0) pos by simp)
  generalize findF rows pos = R at *
  clear hs hi hnt hntt hnl
  unfold regV at *
  have hcA := (Chg.refl No w).alloc (.cells #[.slice A rows.length c, .slice B nt d] 82)
  have hcB := (Chg.refl No (w.alloc (.cells #[.slice A rows.length c, .slice B nt d] 82))).alloc (.cells #[.int .i64 0, .int .i64 0] 50)
  have o1 := hcB.obj (alloc_obj w (.cells #[.slice A rows.length c, .slice B nt d] 82)) (not_no _)
  have o4 := alloc_obj (w.alloc (.cells #[.slice A rows.length c, .slice B nt d] 82)) (.cells #[.int .i64 0, .int .i64 0] 50)
  have hz : (w.alloc (.cells #[.slice A rows.length c, .slice B nt d] 82)).heap.size = w.heap.size + 1 := by simp
  rw [hz] at o4
  have hc0 := hcA.trans hcB
  have a0 := cell_obj (i := 0) o1 rfl
  have a1 := cell_obj (i := 1) o1 rfl
  have hn : ¬ pos < 0 := by omega
  clear hcA hcB hz
  go_enter Try.func42, Try.ntmps42
  go_wp2_with (with_reducible first | refine stop_append ?_ | refine stop_copy ?_ | refine stop_make ?_ | refine stop_lookup ?_ | refine stop_update ?_ | refine stop_slice ?_ | refine stop_range ?_ | refine stop_next ?_ | refine stop_convert ⟨_, rfl⟩ ?_ | refine stop_convertB ⟨_, _, _, rfl⟩ ?_ | refine stop_eqSlice ⟨_, _, rfl⟩ ?_)
  obtain ⟨b0, hb0⟩ : ∃ b, b = w.heap.size := ⟨_, rfl⟩
  obtain ⟨b1, hb1⟩ : ∃ b, b = w.heap.size + 1 := ⟨_, rfl⟩
  generalize (w.alloc (.cells #[.slice A rows.length c, .slice B nt d] 82)).alloc (.cells #[.int .i64 0, .int .i64 0] 50) = w0 at *
  rw [← hb1] at o4 ⊢
  rw [← hb0] at o1 a0 a1 ⊢
  have hge : w.heap.size ≤ b1 := by omega
  have hb01 : b0 ≠ b1 := by omega
  clear hb0 hb1
  go_loopw [1, 6, 7] (fun v1 v6 _ wr => ∃ (k : Nat) (x : Int), k ≤ nt ∧ v6 = .int .i64 k ∧ v1 = .int .i64 x ∧ 0 ≤ x ∧ x ≤ pos ∧ Chg No w0 wr ∧ R = findF (rows.drop k) x) (fun _ v6 _ _ => nt - (intOf v6).toNat)
  case atStart => exact ⟨0, _, by omega, rfl, rfl, by omega, by omega, Chg.refl _ _, HR.out⟩
  case round =>
    obtain ⟨k, x, hk, rfl, rfl, hx0, hxp, hc, hR⟩ := hrel
    have HRk := Lib.hid hR
    have hcr := hc0.trans hc
    replace a0 := hc.cell a0 (not_no _)
    replace a1 := hc.cell a1 (not_no _)
    have o4r := hc.obj o4 (not_no _)
    clear hR
    by_cases hlt : k < nt
    · have hkr : k < rows.length := by have := Hnt.out; omega
      have Hm := Lib.hid (Hmany.out k (by have := Hnt.out; omega) wr hcr)
      have hmb := many_bound rows[k]
      have hd := Hfd.out k hkr x
      rw [Hov.out k hkr, decide_eq_true (show k + 1 < rows.length by have := Hnt.out; omega)] at hd
      have Hd := Lib.hid hd
      have Hcgk := Lib.hid (Hcg.out k hkr)
      generalize hT : rows[k].1 = T at *
      generalize manyR rows[k] = mk at *
      clear hd hT
      go_wp2_with (with_reducible first | refine stop_append ?_ | refine stop_copy ?_ | refine stop_make ?_ | refine stop_lookup ?_ | refine stop_update ?_ | refine stop_slice ?_ | refine stop_range ?_ | refine stop_next ?_ | refine stop_convert ⟨_, rfl⟩ ?_ | refine stop_convertB ⟨_, _, _, rfl⟩ ?_ | refine stop_eqSlice ⟨_, _, rfl⟩ ?_)
      refine Hm.out.mono ?_
      rintro e w2 ⟨rfl, hc2⟩
      have hc02 := hc.trans hc2
      have hcr2 := hcr.trans hc2
      replace a0 := hc2.cell a0 (not_no _)
      by_cases hxm : x < mk
      · obtain ⟨b, o, vq, vs, rfl, hb, -, -, e0, -, -⟩ := Hcgk.out _ hcr2
        have o42 := hc2.obj o4r (not_no _)
        have z0 := cell_obj (i := 0) o42 rfl
        have z1 := cell_obj (i := 1) o42 rfl
        have f0 := free_obj (i := 0) o42
        have f1 := free_obj (i := 1) o42
        have Hr := Lib.hid (show R = some (T, x) by rw [HRk.out, Hd.out, if_pos (.inr hxm)])
        go_wp2_with (with_reducible first | refine stop_append ?_ | refine stop_copy ?_ | refine stop_make ?_ | refine stop_lookup ?_ | refine stop_update ?_ | refine stop_slice ?_ | refine stop_range ?_ | refine stop_next ?_ | refine stop_convert ⟨_, rfl⟩ ?_ | refine stop_convertB ⟨_, _, _, rfl⟩ ?_ | refine stop_eqSlice ⟨_, _, rfl⟩ ?_)
        refine bodyPost_ret (v := .tuple #[.agg #[.int .i64 T, .int .i64 x], .int .i64 0]) (by simp [results, Try.results42, go_sem, *]) rfl ?_
        rw [Hr.out]
        exact ⟨rfl, (hcr2.setCell (.inr hge) _).setCell (.inr hge) _⟩
      · have Hr := Lib.hid (show R = findF (rows.drop (k + 1)) (x - mk) by rw [HRk.out, Hd.out, if_neg (by rintro (h | h); cases h; exact hxm h), IntWalk.wrap64_in _ (by omega)])
        go_wp2_with (with_reducible first | refine stop_append ?_ | refine stop_copy ?_ | refine stop_make ?_ | refine stop_lookup ?_ | refine stop_update ?_ | refine stop_slice ?_ | refine stop_range ?_ | refine stop_next ?_ | refine stop_convert ⟨_, rfl⟩ ?_ | refine stop_convertB ⟨_, _, _, rfl⟩ ?_ | refine stop_eqSlice ⟨_, _, rfl⟩ ?_)
        go_roundw
        case rel => exact ⟨k + 1, x - mk, by omega, by go_num, rfl, by omega, by omega, hc02, Hr.out⟩
        case measure => simp [intOf]; omega
    · obtain rfl : k = nt := by omega
      have hkr : k < rows.length := by have := Hnt.out; omega
      obtain ⟨b, o, vq, vs, rfl, hb, -, -, e0, -, -⟩ := Hcg.out k hkr wr hcr
      have hd := Hfd.out k hkr x
      rw [Hov.out k hkr, decide_eq_false (show ¬ k + 1 < rows.length by have := Hnt.out; omega), if_pos (.inl rfl)] at hd
      have Hr := Lib.hid (show R = some (rows[k].1, x) by rw [HRk.out, hd])
      clear hd
      generalize rows[k].1 = T at *
      have z0 := cell_obj (i := 0) o4r rfl
      have z1 := cell_obj (i := 1) o4r rfl
      have f0 := free_obj (i := 0) o4r
      have f1 := free_obj (i := 1) o4r
      have ek : ((rows.length : Nat) : Int) - 1 = k := by have := Hnt.out; omega
      have ek2 : (k : Int) < rows.length := by omega
      have ek3 : k < rows.length := hkr
      go_wp2_with (with_reducible first | refine stop_append ?_ | refine stop_copy ?_ | refine stop_make ?_ | refine stop_lookup ?_ | refine stop_update ?_ | refine stop_slice ?_ | refine stop_range ?_ | refine stop_next ?_ | refine stop_convert ⟨_, rfl⟩ ?_ | refine stop_convertB ⟨_, _, _, rfl⟩ ?_ | refine stop_eqSlice ⟨_, _, rfl⟩ ?_)
      refine bodyPost_ret (v := .tuple #[.agg #[.int .i64 T, .int .i64 x], .int .i64 0]) (by simp [results, Try.results42, go_sem, *]) rfl ?_
      rw [Hr.out]
      exact ⟨rfl, (hcr.setCell (.inr hge) _).setCell (.inr hge) _⟩
end Go.Proofs.Ytbjpoamnglfjeaa


/- Walks of the document's chapter 6: Right, Same. -/
set_option linter.unusedVariables false
set_option linter.unusedSimpArgs false
namespace Go.Proofs.Ytbjpoamnglfjeaa
open Go.RowKit Cb

theorem rightC_no {t : Int} {q : List Int} {s : List (List Int)} (h : ¬ ((1 ≤ t ∧ t ≤ 64) ∧ (q.length % 2 = 1 ∧ q.length ≤ 7) ∧ (1 ≤ s.length ∧ s.length ≤ 8) ∧ nodesB q = true ∧ ∀ l ∈ s, shardB l = true)) : rightC t q s = false := by
  rcases e : rightC t q s with _ | _
  · rfl
  · exact absurd (rightC_iff.1 e) h
set_option maxRecDepth 100000 in
set_option maxHeartbeats 4000000 in
theorem cright_any (F G : Nat → Prop) (t : Int) (vq vs : Value) (q : List Int) (s : List (List Int)) (w : World) (hq : Sl F w vq q) (hs : Sl G w vs s) (hlq : q.length * 8 ≤ 140737488351232) (hls : s.length ≤ 17592186044416) (hb : ∀ x ∈ s, x.length * 8 ≤ 140737488351232) :
    Calls Try.prog 39 #[cfgV t vq vs] w fun e w' => e = .returned (.bool (rightC t q s)) ∧ Chg No w w' := by
  have Hq := Lib.hid (fun W (hW : Chg No w W) => runlike_any F vq q W (hq.keepNo hW) (by omega))
  have Hs := Lib.hid (fun W (hW : Chg No w W) => hs.keepNo hW)
  have Hb := Lib.hid hb
  have Hno := Lib.hid (fun h => rightC_no (t := t) (q := q) (s := s) h)
  have Hyes := Lib.hid (fun h => (rightC_iff (t := t) (q := q) (s := s)).2 h)
  obtain ⟨Aq, cq, rfl⟩ := hq.slice
  obtain ⟨As, cs, rfl⟩ := hs.slice
  clear hq hs hb
  generalize rightC t q s = R at *
  unfold cfgV at *
  have o1 := alloc_obj w (.cells #[.int .i64 t, .slice Aq q.length cq, .slice As s.length cs] 63)
  have hc0 := (Chg.refl No w).alloc (.cells #[.int .i64 t, .slice Aq q.length cq, .slice As s.length cs] 63)
  have a0 := cell_obj (i := 0) o1 rfl
  have a1 := cell_obj (i := 1) o1 rfl
  have a2 := cell_obj (i := 2) o1 rfl
  by_cases h1 : t < 1
  · have Hr := Lib.hid (Hno.out (by omega))
    go_enter Try.func39, Try.ntmps39
    go_wp2_with (with_reducible first | refine stop_append ?_ | refine stop_copy ?_ | refine stop_make ?_ | refine stop_lookup ?_ | refine stop_update ?_ | refine stop_slice ?_ | refine stop_range ?_ | refine stop_next ?_ | refine stop_convert ⟨_, rfl⟩ ?_ | refine stop_convertB ⟨_, _, _, rfl⟩ ?_ | refine stop_eqSlice ⟨_, _, rfl⟩ ?_)
    go_ret
    exact ⟨by rw [Hr.out]; rfl, hc0⟩
  by_cases h2 : 64 < t
  · have Hr := Lib.hid (Hno.out (by omega))
    go_enter Try.func39, Try.ntmps39
    go_wp2_with (with_reducible first | refine stop_append ?_ | refine stop_copy ?_ | refine stop_make ?_ | refine stop_lookup ?_ | refine stop_update ?_ | refine stop_slice ?_ | refine stop_range ?_ | refine stop_next ?_ | refine stop_convert ⟨_, rfl⟩ ?_ | refine stop_convertB ⟨_, _, _, rfl⟩ ?_ | refine stop_eqSlice ⟨_, _, rfl⟩ ?_)
    go_ret
    exact ⟨by rw [Hr.out]; rfl, hc0⟩
  by_cases h3 : s.length = 0
  · have Hr := Lib.hid (Hno.out (by omega))
    have h3' : (s.length : Int) < 1 := by omega
    clear h3
    go_enter Try.func39, Try.ntmps39
    go_wp2_with (with_reducible first | refine stop_append ?_ | refine stop_copy ?_ | refine stop_make ?_ | refine stop_lookup ?_ | refine stop_update ?_ | refine stop_slice ?_ | refine stop_range ?_ | refine stop_next ?_ | refine stop_convert ⟨_, rfl⟩ ?_ | refine stop_convertB ⟨_, _, _, rfl⟩ ?_ | refine stop_eqSlice ⟨_, _, rfl⟩ ?_)
    go_ret
    exact ⟨by rw [Hr.out]; rfl, hc0⟩
  by_cases h4 : 8 < s.length
  · have Hr := Lib.hid (Hno.out (by omega))
    have h3' : ¬ (s.length : Int) < 1 := by omega
    have h4' : 8 < (s.length : Int) := by omega
    clear h3
    go_enter Try.func39, Try.ntmps39
    go_wp2_with (with_reducible first | refine stop_append ?_ | refine stop_copy ?_ | refine stop_make ?_ | refine stop_lookup ?_ | refine stop_update ?_ | refine stop_slice ?_ | refine stop_range ?_ | refine stop_next ?_ | refine stop_convert ⟨_, rfl⟩ ?_ | refine stop_convertB ⟨_, _, _, rfl⟩ ?_ | refine stop_eqSlice ⟨_, _, rfl⟩ ?_)
    go_ret
    exact ⟨by rw [Hr.out]; rfl, hc0⟩
  have h3' : ¬ (s.length : Int) < 1 := by omega
  have h4' : ¬ 8 < (s.length : Int) := by omega
  have H3 := Lib.hid h3
  clear h3
  go_enter Try.func39, Try.ntmps39
  go_wp2_with (with_reducible first | refine stop_append ?_ | refine stop_copy ?_ | refine stop_make ?_ | refine stop_lookup ?_ | refine stop_update ?_ | refine stop_slice ?_ | refine stop_range ?_ | refine stop_next ?_ | refine stop_convert ⟨_, rfl⟩ ?_ | refine stop_convertB ⟨_, _, _, rfl⟩ ?_ | refine stop_eqSlice ⟨_, _, rfl⟩ ?_)
  generalize w.alloc (.cells #[.int .i64 t, .slice Aq q.length cq, .slice As s.length cs] 63) = w0 at *
  generalize w.heap.size = b0 at *
  go_loopw [3] (fun v3 wr => ∃ k : Nat, k ≤ s.length ∧ v3 = .int .i64 k ∧ Chg No w0 wr ∧ ∀ x ∈ s.take k, shardB x = true) (fun v3 _ => s.length - (intOf v3).toNat)
  case atStart => exact ⟨0, by omega, rfl, Chg.refl _ _, by simp⟩
  case round =>
    obtain ⟨k, hk, rfl, hc, hall⟩ := hrel
    have Hall := Lib.hid hall
    have b1 := hc.cell a1 (not_no _)
    have b2 := hc.cell a2 (not_no _)
    have hcw := hc0.trans hc
    clear hall
    by_cases hlt : k < s.length
    · obtain ⟨b, o, u, rfl, _, hbl, hx0, hu⟩ := rowT_get (Hs.out wr hcw) k hlt
      have Hmem := Lib.hid (List.getElem_mem hlt)
      have Htk := Lib.hid (List.take_succ_eq_append_getElem hlt)
      have hxl := Hb.out _ (List.getElem_mem hlt)
      generalize s[k] = x at *
      have Hun := Lib.hid (fun W (hW : Chg No wr W) => runlike_any G u x W (hu.keepNo hW) (by omega))
      have Hbad := Lib.hid (fun (h : shardB x = false) => Hno.out (fun hh => by have := hh.2.2.2.2 x Hmem.out; rw [h] at this; cases this))
      obtain ⟨Au, cu, rfl⟩ := hu.slice
      clear hu
      by_cases e1 : x.length = 0
      · have Hr := Lib.hid (Hbad.out (by simp [shardB, e1]))
        have e1' : (x.length : Int) < 1 := by omega
        clear e1
        go_wp2_with (with_reducible first | refine stop_append ?_ | refine stop_copy ?_ | refine stop_make ?_ | refine stop_lookup ?_ | refine stop_update ?_ | refine stop_slice ?_ | refine stop_range ?_ | refine stop_next ?_ | refine stop_convert ⟨_, rfl⟩ ?_ | refine stop_convertB ⟨_, _, _, rfl⟩ ?_ | refine stop_eqSlice ⟨_, _, rfl⟩ ?_)
        go_ret
        exact ⟨by rw [Hr.out]; rfl, hcw⟩
      have e1' : ¬ (x.length : Int) < 1 := by omega
      by_cases e2 : 3 < x.length
      · have Hr := Lib.hid (Hbad.out (by simp [shardB]; omega))
        have e2' : 3 < (x.length : Int) := by omega
        clear e1
        go_wp2_with (with_reducible first | refine stop_append ?_ | refine stop_copy ?_ | refine stop_make ?_ | refine stop_lookup ?_ | refine stop_update ?_ | refine stop_slice ?_ | refine stop_range ?_ | refine stop_next ?_ | refine stop_convert ⟨_, rfl⟩ ?_ | refine stop_convertB ⟨_, _, _, rfl⟩ ?_ | refine stop_eqSlice ⟨_, _, rfl⟩ ?_)
        go_ret
        exact ⟨by rw [Hr.out]; rfl, hcw⟩
      have e2' : ¬ 3 < (x.length : Int) := by omega
      have Hsh := Lib.hid (show shardB x = nodesB x by unfold shardB; rw [decide_eq_true (by omega), Bool.true_and])
      obtain ⟨nb, hnb⟩ : ∃ o, o = nodesB x := ⟨_, rfl⟩
      rw [← hnb] at Hun Hsh
      clear hnb e1
      go_wp2_with (with_reducible first | refine stop_append ?_ | refine stop_copy ?_ | refine stop_make ?_ | refine stop_lookup ?_ | refine stop_update ?_ | refine stop_slice ?_ | refine stop_range ?_ | refine stop_next ?_ | refine stop_convert ⟨_, rfl⟩ ?_ | refine stop_convertB ⟨_, _, _, rfl⟩ ?_ | refine stop_eqSlice ⟨_, _, rfl⟩ ?_)
      refine (Hun.out _ (Chg.refl _ _)).mono ?_
      rintro e w2 ⟨rfl, hc2⟩
      have hcw2 := hcw.trans hc2
      have hc02 := hc.trans hc2
      rcases nb with _ | _
      · have Hr := Lib.hid (Hbad.out Hsh.out)
        go_wp2_with (with_reducible first | refine stop_append ?_ | refine stop_copy ?_ | refine stop_make ?_ | refine stop_lookup ?_ | refine stop_update ?_ | refine stop_slice ?_ | refine stop_range ?_ | refine stop_next ?_ | refine stop_convert ⟨_, rfl⟩ ?_ | refine stop_convertB ⟨_, _, _, rfl⟩ ?_ | refine stop_eqSlice ⟨_, _, rfl⟩ ?_)
        go_ret
        exact ⟨by rw [Hr.out]; rfl, hcw2⟩
      · go_wp2_with (with_reducible first | refine stop_append ?_ | refine stop_copy ?_ | refine stop_make ?_ | refine stop_lookup ?_ | refine stop_update ?_ | refine stop_slice ?_ | refine stop_range ?_ | refine stop_next ?_ | refine stop_convert ⟨_, rfl⟩ ?_ | refine stop_convertB ⟨_, _, _, rfl⟩ ?_ | refine stop_eqSlice ⟨_, _, rfl⟩ ?_)
        go_roundw
        case rel => exact ⟨k + 1, by omega, by go_num, hc02, by
          rw [Htk.out]
          intro y hy
          rcases List.mem_append.1 hy with h | h
          · exact Hall.out y h
          · rw [List.mem_singleton.1 h]; exact Hsh.out⟩
        case measure => simp [intOf]; omega
    · obtain rfl : k = s.length := by omega
      rw [List.take_length] at Hall
      by_cases hn : q.length = 1 ∨ q.length = 3 ∨ q.length = 5 ∨ q.length = 7
      · have Hfin := Lib.hid (show nodesB q = R by
          rcases e : nodesB q with _ | _
          · exact (Hno.out (fun hh => by have := hh.2.2.2.1; rw [e] at this; cases this)).symm
          · have h30 := H3.out
            exact (Hyes.out ⟨by omega, by omega, by omega, e, Hall.out⟩).symm)
        rcases hn with hn | hn | hn | hn
        all_goals
          simp only [hn] at b1 Hq
          go_wp2_with (with_reducible first | refine stop_append ?_ | refine stop_copy ?_ | refine stop_make ?_ | refine stop_lookup ?_ | refine stop_update ?_ | refine stop_slice ?_ | refine stop_range ?_ | refine stop_next ?_ | refine stop_convert ⟨_, rfl⟩ ?_ | refine stop_convertB ⟨_, _, _, rfl⟩ ?_ | refine stop_eqSlice ⟨_, _, rfl⟩ ?_)
          refine (Hq.out _ hcw).mono ?_
          rintro e w2 ⟨rfl, hc2⟩
          go_wp2_with (with_reducible first | refine stop_append ?_ | refine stop_copy ?_ | refine stop_make ?_ | refine stop_lookup ?_ | refine stop_update ?_ | refine stop_slice ?_ | refine stop_range ?_ | refine stop_next ?_ | refine stop_convert ⟨_, rfl⟩ ?_ | refine stop_convertB ⟨_, _, _, rfl⟩ ?_ | refine stop_eqSlice ⟨_, _, rfl⟩ ?_)
          go_ret
          exact ⟨by rw [← Hfin.out]; rfl, hcw.trans hc2⟩
      · have Hr := Lib.hid (Hno.out (fun hh => hn (by have := hh.2.1; omega)))
        have n1 : ((q.length : Int) == 1) = false := beq_false_of_ne (by omega)
        have n3 : ((q.length : Int) == 3) = false := beq_false_of_ne (by omega)
        have n5 : ((q.length : Int) == 5) = false := beq_false_of_ne (by omega)
        have n7 : ((q.length : Int) == 7) = false := beq_false_of_ne (by omega)
        clear hn
        go_wp2_with (with_reducible first | refine stop_append ?_ | refine stop_copy ?_ | refine stop_make ?_ | refine stop_lookup ?_ | refine stop_update ?_ | refine stop_slice ?_ | refine stop_range ?_ | refine stop_next ?_ | refine stop_convert ⟨_, rfl⟩ ?_ | refine stop_convertB ⟨_, _, _, rfl⟩ ?_ | refine stop_eqSlice ⟨_, _, rfl⟩ ?_)
        go_ret
        exact ⟨by rw [Hr.out]; rfl, hcw⟩
end Go.Proofs.Ytbjpoamnglfjeaa


/- Walks of the document's chapter 6: Same. -/
set_option linter.unusedVariables false
set_option linter.unusedSimpArgs false
namespace Go.Proofs.Ytbjpoamnglfjeaa
open Go.RowKit Cb

set_option maxRecDepth 100000 in
set_option maxHeartbeats 4000000 in
theorem csame_any (F G F' G' : Nat → Prop) (t t' : Int) (vq vs vq' vs' : Value) (q q' : List Int) (s s' : List (List Int)) (w : World) (hq : Sl F w vq q) (hs : Sl G w vs s) (hq' : Sl F' w vq' q') (hs' : Sl G' w vs' s')
    (h1 : q.length ≤ 17592186044416) (h2 : s.length ≤ 17592186044416) (h3 : ∀ x ∈ s, x.length ≤ 17592186044416) (h1' : q'.length ≤ 17592186044416) (h2' : s'.length ≤ 17592186044416) (h3' : ∀ x ∈ s', x.length ≤ 17592186044416) :
    Calls Try.prog 77 #[cfgV t vq vs, cfgV t' vq' vs'] w fun e w' => e = .returned (.bool (sameC t q s t' q' s')) ∧ Chg No w w' := by
  have Hq := Lib.hid (fun W (hW : Chg No w W) => requal_any F F' vq vq' q q' W (hq.keepNo hW) (hq'.keepNo hW) h1 h1')
  have Hs := Lib.hid (fun W (hW : Chg No w W) => hs.keepNo hW)
  have Hs' := Lib.hid (fun W (hW : Chg No w W) => hs'.keepNo hW)
  have H3 := Lib.hid h3; have H3' := Lib.hid h3'
  have Hno := Lib.hid (show ¬ (t = t' ∧ q = q' ∧ s = s') → sameC t q s t' q' s' = false from fun h => by unfold sameC; exact decide_eq_false h)
  have Hyes := Lib.hid (show (t = t' ∧ q = q' ∧ s = s') → sameC t q s t' q' s' = true from fun h => by unfold sameC; exact decide_eq_true h)
  obtain ⟨Aq, cq, rfl⟩ := hq.slice
  obtain ⟨As, cs, rfl⟩ := hs.slice
  obtain ⟨Bq, dq, rfl⟩ := hq'.slice
  obtain ⟨Bs, ds, rfl⟩ := hs'.slice
  clear hq hs hq' hs' h3 h3'
  generalize sameC t q s t' q' s' = R at *
  obtain ⟨eqq, heq⟩ : ∃ b, b = decide (q = q') := ⟨_, rfl⟩
  rw [← heq] at Hq
  have Heq := Lib.hid heq
  clear heq
  unfold cfgV at *
  have hcA := (Chg.refl No w).alloc (.cells #[.int .i64 t, .slice Aq q.length cq, .slice As s.length cs] 63)
  have hcB := (Chg.refl No (w.alloc (.cells #[.int .i64 t, .slice Aq q.length cq, .slice As s.length cs] 63))).alloc (.cells #[.int .i64 t', .slice Bq q'.length dq, .slice Bs s'.length ds] 63)
  have o1 := hcB.obj (alloc_obj w (.cells #[.int .i64 t, .slice Aq q.length cq, .slice As s.length cs] 63)) (not_no _)
  have o2 := alloc_obj (w.alloc (.cells #[.int .i64 t, .slice Aq q.length cq, .slice As s.length cs] 63)) (.cells #[.int .i64 t', .slice Bq q'.length dq, .slice Bs s'.length ds] 63)
  have hz : (w.alloc (.cells #[.int .i64 t, .slice Aq q.length cq, .slice As s.length cs] 63)).heap.size = w.heap.size + 1 := by simp
  rw [hz] at o2
  have hc0 := hcA.trans hcB
  have a0 := cell_obj (i := 0) o1 rfl
  have a1 := cell_obj (i := 1) o1 rfl
  have a2 := cell_obj (i := 2) o1 rfl
  have b0 := cell_obj (i := 0) o2 rfl
  have b1 := cell_obj (i := 1) o2 rfl
  have b2 := cell_obj (i := 2) o2 rfl
  clear hcA hcB hz o1 o2
  by_cases k1 : t = t'
  case neg =>
    have Hr := Lib.hid (Hno.out (fun h => k1 h.1))
    have k2 : (t == t') = false := beq_false_of_ne k1
    have k3 : (t != t') = true := by simpa using k1
    clear k1
    go_enter Try.func77, Try.ntmps77
    go_wp2_with (with_reducible first | refine stop_append ?_ | refine stop_copy ?_ | refine stop_make ?_ | refine stop_lookup ?_ | refine stop_update ?_ | refine stop_slice ?_ | refine stop_range ?_ | refine stop_next ?_ | refine stop_convert ⟨_, rfl⟩ ?_ | refine stop_convertB ⟨_, _, _, rfl⟩ ?_ | refine stop_eqSlice ⟨_, _, rfl⟩ ?_)
    go_ret
    exact ⟨by rw [Hr.out]; rfl, hc0⟩
  subst k1
  go_enter Try.func77, Try.ntmps77
  go_wp2_with (with_reducible first | refine stop_append ?_ | refine stop_copy ?_ | refine stop_make ?_ | refine stop_lookup ?_ | refine stop_update ?_ | refine stop_slice ?_ | refine stop_range ?_ | refine stop_next ?_ | refine stop_convert ⟨_, rfl⟩ ?_ | refine stop_convertB ⟨_, _, _, rfl⟩ ?_ | refine stop_eqSlice ⟨_, _, rfl⟩ ?_)
  generalize (w.alloc (.cells #[.int .i64 t, .slice Aq q.length cq, .slice As s.length cs] 63)).alloc (.cells #[.int .i64 t, .slice Bq q'.length dq, .slice Bs s'.length ds] 63) = w0 at *
  refine (Hq.out _ hc0).mono ?_
  rintro e w1 ⟨rfl, hc1⟩
  have hcw := hc0.trans hc1
  replace a2 := hc1.cell a2 (not_no _)
  replace b2 := hc1.cell b2 (not_no _)
  rcases eqq with _ | _
  · have Hr := Lib.hid (Hno.out (fun h => absurd h.2.1 (of_decide_eq_false Heq.out.symm)))
    go_wp2_with (with_reducible first | refine stop_append ?_ | refine stop_copy ?_ | refine stop_make ?_ | refine stop_lookup ?_ | refine stop_update ?_ | refine stop_slice ?_ | refine stop_range ?_ | refine stop_next ?_ | refine stop_convert ⟨_, rfl⟩ ?_ | refine stop_convertB ⟨_, _, _, rfl⟩ ?_ | refine stop_eqSlice ⟨_, _, rfl⟩ ?_)
    go_ret
    exact ⟨by rw [Hr.out]; rfl, hcw⟩
  have Hqq := Lib.hid (of_decide_eq_true Heq.out.symm)
  by_cases k4 : s.length = s'.length
  case neg =>
    have Hr := Lib.hid (Hno.out (fun h => k4 (by rw [h.2.2])))
    have k2 : ((s.length : Int) == s'.length) = false := beq_false_of_ne (by omega)
    have k3 : ((s.length : Int) != s'.length) = true := by simp [bne, k2]
    have k5 : (s.length == s'.length) = false := beq_false_of_ne k4
    clear k4
    go_wp2_with (with_reducible first | refine stop_append ?_ | refine stop_copy ?_ | refine stop_make ?_ | refine stop_lookup ?_ | refine stop_update ?_ | refine stop_slice ?_ | refine stop_range ?_ | refine stop_next ?_ | refine stop_convert ⟨_, rfl⟩ ?_ | refine stop_convertB ⟨_, _, _, rfl⟩ ?_ | refine stop_eqSlice ⟨_, _, rfl⟩ ?_)
    go_ret
    exact ⟨by rw [Hr.out]; rfl, hcw⟩
  have K4 := Lib.hid k4
  rw [← k4] at b2
  clear a0 a1 b0 b1 k4
  go_wp2_with (with_reducible first | refine stop_append ?_ | refine stop_copy ?_ | refine stop_make ?_ | refine stop_lookup ?_ | refine stop_update ?_ | refine stop_slice ?_ | refine stop_range ?_ | refine stop_next ?_ | refine stop_convert ⟨_, rfl⟩ ?_ | refine stop_convertB ⟨_, _, _, rfl⟩ ?_ | refine stop_eqSlice ⟨_, _, rfl⟩ ?_)
  go_loopw [5] (fun v5 wr => ∃ k : Nat, k ≤ s.length ∧ v5 = .int .i64 k ∧ Chg No w1 wr ∧ s.take k = s'.take k) (fun v5 _ => s.length - (intOf v5).toNat)
  case atStart => exact ⟨0, by omega, rfl, Chg.refl _ _, by simp⟩
  case round =>
    obtain ⟨k, hk, rfl, hc, hall⟩ := hrel
    have Hall := Lib.hid hall
    replace a2 := hc.cell a2 (not_no _)
    replace b2 := hc.cell b2 (not_no _)
    have hcr := hcw.trans hc
    clear hall
    by_cases hlt : k < s.length
    · have hlt' : k < s'.length := by have := K4.out; omega
      obtain ⟨b, o, u, rfl, _, hbl, hx0, hu⟩ := rowT_get (Hs.out wr hcr) k hlt
      obtain ⟨b', o', u', rfl, _, hbl', hx0', hu'⟩ := rowT_get (Hs'.out wr hcr) k hlt'
      have He := Lib.hid (fun W (hW : Chg No wr W) => requal_any G G' u u' s[k] s'[k] W (hu.keepNo hW) (hu'.keepNo hW) (H3.out _ (List.getElem_mem hlt)) (H3'.out _ (List.getElem_mem hlt')))
      have Htk := Lib.hid (show s[k] = s'[k] → s.take (k + 1) = s'.take (k + 1) from fun h => by rw [List.take_succ_eq_append_getElem hlt, List.take_succ_eq_append_getElem hlt', Hall.out, h])
      have Hbad := Lib.hid (show ¬ s[k] = s'[k] → R = false from fun h => Hno.out (fun hh => h (by have := hh.2.2; subst this; rfl)))
      obtain ⟨Au, cu, rfl⟩ := hu.slice
      obtain ⟨Bu, du, rfl⟩ := hu'.slice
      clear hu hu'
      obtain ⟨eb, heb⟩ : ∃ b, b = decide (s[k] = s'[k]) := ⟨_, rfl⟩
      rw [← heb] at He
      have Heb := Lib.hid heb
      clear heb
      generalize s[k].length = n1 at *
      generalize s'[k].length = n2 at *
      have hltI : (k : Int) < s'.length := by omega
      have cd := (Chg.refl No wr).drew
      go_wp2_with (with_reducible first | refine stop_append ?_ | refine stop_copy ?_ | refine stop_make ?_ | refine stop_lookup ?_ | refine stop_update ?_ | refine stop_slice ?_ | refine stop_range ?_ | refine stop_next ?_ | refine stop_convert ⟨_, rfl⟩ ?_ | refine stop_convertB ⟨_, _, _, rfl⟩ ?_ | refine stop_eqSlice ⟨_, _, rfl⟩ ?_)
      have HS := Lib.hid (show ∀ W : World, Chg No wr W → (fun W => (W.cell? ⟨w.heap.size, 2, none⟩ = some (.slice (some ⟨b, o, none⟩) s.length cs) ∧ W.cell? ⟨w.heap.size + 1, 2, none⟩ = some (.slice (some ⟨b', o', none⟩) s.length ds)) ∧ (W.cell? ⟨b, o + k, none⟩ = some (.slice Au n1 cu) ∧ W.cell? ⟨b', o' + k, none⟩ = some (.slice Bu n2 du)) ∧ Chg No wr W) W from fun W hW => ⟨⟨hW.cell a2 (not_no _), hW.cell b2 (not_no _)⟩, ⟨hW.cell hx0 (not_no _), hW.cell hx0' (not_no _)⟩, hW⟩)
      refine pl_start (fun W => (W.cell? ⟨w.heap.size, 2, none⟩ = some (.slice (some ⟨b, o, none⟩) s.length cs) ∧ W.cell? ⟨w.heap.size + 1, 2, none⟩ = some (.slice (some ⟨b', o', none⟩) s.length ds)) ∧ (W.cell? ⟨b, o + k, none⟩ = some (.slice Au n1 cu) ∧ W.cell? ⟨b', o' + k, none⟩ = some (.slice Bu n2 du)) ∧ Chg No wr W) (by kernel_rfl) (by kernel_rfl) (HS.out _ cd) ?_
      ((refine pl_yes (i := 0) (oi := { dst := some 35, op := .fieldAddr 63 (.tmp 2) 2, type := 0, pos := "ref.go:111", after := #[], guard := none }) (v := ?_) rfl (by kernel_rfl) (by kernel_rfl) rfl ?_ ?_); rotate_left; focus (intro W hW; (try dsimp only at hW); go_split_ands; go_simp; (try (simp (disch := omega) only [IntWalk.i64_in]; (try go_simp))); (try (split; (next => omega); (try go_simp))); try rfl; done))
      try simp only [Act.put, List.setIfInBounds_toArray, List.set_cons_zero, List.set_cons_succ]
      ((refine pl_yes (i := 1) (oi := { dst := some 36, op := .load 61 (.tmp 35), type := 61, pos := "ref.go:111", after := #[{ on := 0, ground := .data }], guard := none }) (v := ?_) rfl (by kernel_rfl) (by kernel_rfl) rfl ?_ ?_); rotate_left; focus (intro W hW; (try dsimp only at hW); go_split_ands; go_simp; (try (simp (disch := omega) only [IntWalk.i64_in]; (try go_simp))); (try (split; (next => omega); (try go_simp))); try rfl; done))
      try simp only [Act.put, List.setIfInBounds_toArray, List.set_cons_zero, List.set_cons_succ]
      ((refine pl_yes (i := 2) (oi := { dst := some 37, op := .move (.tmp 5), type := 3, pos := "ref.go:111", after := #[], guard := none }) (v := ?_) rfl (by kernel_rfl) (by kernel_rfl) rfl ?_ ?_); rotate_left; focus (intro W hW; (try dsimp only at hW); go_split_ands; go_simp; (try (simp (disch := omega) only [IntWalk.i64_in]; (try go_simp))); (try (split; (next => omega); (try go_simp))); try rfl; done))
      try simp only [Act.put, List.setIfInBounds_toArray, List.set_cons_zero, List.set_cons_succ]
      ((refine pl_yes (i := 3) (oi := { dst := some 38, op := .indexAddr 61 (.tmp 36) (.tmp 37), type := 0, pos := "ref.go:111", after := #[{ on := 1, ground := .data }, { on := 2, ground := .data }], guard := none }) (v := ?_) rfl (by kernel_rfl) (by kernel_rfl) rfl ?_ ?_); rotate_left; focus (intro W hW; (try dsimp only at hW); go_split_ands; go_simp; (try (simp (disch := omega) only [IntWalk.i64_in]; (try go_simp))); (try (split; (next => omega); (try go_simp))); try rfl; done))
      try simp only [Act.put, List.setIfInBounds_toArray, List.set_cons_zero, List.set_cons_succ]
      ((refine pl_yes (i := 4) (oi := { dst := some 39, op := .load 46 (.tmp 38), type := 46, pos := "ref.go:111", after := #[{ on := 3, ground := .data }], guard := none }) (v := ?_) rfl (by kernel_rfl) (by kernel_rfl) rfl ?_ ?_); rotate_left; focus (intro W hW; (try dsimp only at hW); go_split_ands; go_simp; (try (simp (disch := omega) only [IntWalk.i64_in]; (try go_simp))); (try (split; (next => omega); (try go_simp))); try rfl; done))
      try simp only [Act.put, List.setIfInBounds_toArray, List.set_cons_zero, List.set_cons_succ]
      ((refine pl_yes (i := 5) (oi := { dst := some 40, op := .fieldAddr 63 (.tmp 3) 2, type := 0, pos := "ref.go:111", after := #[], guard := none }) (v := ?_) rfl (by kernel_rfl) (by kernel_rfl) rfl ?_ ?_); rotate_left; focus (intro W hW; (try dsimp only at hW); go_split_ands; go_simp; (try (simp (disch := omega) only [IntWalk.i64_in]; (try go_simp))); (try (split; (next => omega); (try go_simp))); try rfl; done))
      try simp only [Act.put, List.setIfInBounds_toArray, List.set_cons_zero, List.set_cons_succ]
      ((refine pl_yes (i := 6) (oi := { dst := some 41, op := .load 61 (.tmp 40), type := 61, pos := "ref.go:111", after := #[{ on := 5, ground := .data }], guard := none }) (v := ?_) rfl (by kernel_rfl) (by kernel_rfl) rfl ?_ ?_); rotate_left; focus (intro W hW; (try dsimp only at hW); go_split_ands; go_simp; (try (simp (disch := omega) only [IntWalk.i64_in]; (try go_simp))); (try (split; (next => omega); (try go_simp))); try rfl; done))
      try simp only [Act.put, List.setIfInBounds_toArray, List.set_cons_zero, List.set_cons_succ]
      ((refine pl_yes (i := 7) (oi := { dst := some 42, op := .move (.tmp 5), type := 3, pos := "ref.go:111", after := #[], guard := none }) (v := ?_) rfl (by kernel_rfl) (by kernel_rfl) rfl ?_ ?_); rotate_left; focus (intro W hW; (try dsimp only at hW); go_split_ands; go_simp; (try (simp (disch := omega) only [IntWalk.i64_in]; (try go_simp))); (try (split; (next => omega); (try go_simp))); try rfl; done))
      try simp only [Act.put, List.setIfInBounds_toArray, List.set_cons_zero, List.set_cons_succ]
      ((refine pl_yes (i := 8) (oi := { dst := some 43, op := .indexAddr 61 (.tmp 41) (.tmp 42), type := 0, pos := "ref.go:111", after := #[{ on := 6, ground := .data }, { on := 7, ground := .data }], guard := none }) (v := ?_) rfl (by kernel_rfl) (by kernel_rfl) rfl ?_ ?_); rotate_left; focus (intro W hW; (try dsimp only at hW); go_split_ands; go_simp; (try (simp (disch := omega) only [IntWalk.i64_in]; (try go_simp))); (try (split; (next => omega); (try go_simp))); try rfl; done))
      try simp only [Act.put, List.setIfInBounds_toArray, List.set_cons_zero, List.set_cons_succ]
      ((refine pl_yes (i := 9) (oi := { dst := some 44, op := .load 46 (.tmp 43), type := 46, pos := "ref.go:111", after := #[{ on := 8, ground := .data }], guard := none }) (v := ?_) rfl (by kernel_rfl) (by kernel_rfl) rfl ?_ ?_); rotate_left; focus (intro W hW; (try dsimp only at hW); go_split_ands; go_simp; (try (simp (disch := omega) only [IntWalk.i64_in]; (try go_simp))); (try (split; (next => omega); (try go_simp))); try rfl; done))
      try simp only [Act.put, List.setIfInBounds_toArray, List.set_cons_zero, List.set_cons_succ]
      refine pl_call (i := 10) (oi := { dst := some 45, op := .call { callee := .value (.func 28), args := #[.tmp 39, .tmp 44], argTypes := #[46, 46] }, type := 4, pos := "ref.go:111", after := #[{ on := 4, ground := .data }, { on := 9, ground := .data }], guard := none }) (.bool eb) rfl (by kernel_rfl) (by kernel_rfl) rfl (by exact (fun W hW => (He.out W hW.2.2).mono fun e w' h => ⟨h.1, HS.out _ (hW.2.2.trans h.2)⟩)) (fun W => by kernel_rfl) ?_
      try simp only [Act.put, List.setIfInBounds_toArray, List.set_cons_zero, List.set_cons_succ]
      ((refine pl_yes (i := 11) (oi := { dst := some 46, op := .unOp .not 4 (.tmp 45), type := 4, pos := "ref.go:111", after := #[{ on := 10, ground := .data }], guard := none }) (v := ?_) rfl (by kernel_rfl) (by kernel_rfl) rfl ?_ ?_); rotate_left; focus (intro W hW; (try dsimp only at hW); go_split_ands; go_simp; (try (simp (disch := omega) only [IntWalk.i64_in]; (try go_simp))); (try (split; (next => omega); (try go_simp))); try rfl; done))
      try simp only [Act.put, List.setIfInBounds_toArray, List.set_cons_zero, List.set_cons_succ]
      refine pl_done (by kernel_rfl)  ?_
      rintro w4 ⟨-, -, hc4⟩
      have hc14 := hc.trans hc4
      rcases eb with _ | _
      · have Hr := Lib.hid (Hbad.out (of_decide_eq_false Heb.out.symm))
        go_wp2_with (with_reducible first | refine stop_append ?_ | refine stop_copy ?_ | refine stop_make ?_ | refine stop_lookup ?_ | refine stop_update ?_ | refine stop_slice ?_ | refine stop_range ?_ | refine stop_next ?_ | refine stop_convert ⟨_, rfl⟩ ?_ | refine stop_convertB ⟨_, _, _, rfl⟩ ?_ | refine stop_eqSlice ⟨_, _, rfl⟩ ?_)
        go_ret
        exact ⟨by rw [Hr.out]; rfl, hcr.trans hc4⟩
      · have Hg := Lib.hid (Htk.out (of_decide_eq_true Heb.out.symm))
        go_wp2_with (with_reducible first | refine stop_append ?_ | refine stop_copy ?_ | refine stop_make ?_ | refine stop_lookup ?_ | refine stop_update ?_ | refine stop_slice ?_ | refine stop_range ?_ | refine stop_next ?_ | refine stop_convert ⟨_, rfl⟩ ?_ | refine stop_convertB ⟨_, _, _, rfl⟩ ?_ | refine stop_eqSlice ⟨_, _, rfl⟩ ?_)
        go_roundw
        case rel => exact ⟨k + 1, by omega, by go_num, hc14, Hg.out⟩
        case measure => simp [intOf]; omega
    · obtain rfl : k = s.length := by omega
      have Hss := Lib.hid (show s = s' by have := Hall.out; rw [List.take_length, K4.out, List.take_length] at this; exact this)
      have Hr := Lib.hid (Hyes.out ⟨by first | rfl | trivial, Hqq.out, Hss.out⟩)
      clear K4
      go_wp2_with (with_reducible first | refine stop_append ?_ | refine stop_copy ?_ | refine stop_make ?_ | refine stop_lookup ?_ | refine stop_update ?_ | refine stop_slice ?_ | refine stop_range ?_ | refine stop_next ?_ | refine stop_convert ⟨_, rfl⟩ ?_ | refine stop_convertB ⟨_, _, _, rfl⟩ ?_ | refine stop_eqSlice ⟨_, _, rfl⟩ ?_)
      go_ret
      exact ⟨by rw [Hr.out]; rfl, hcr⟩
end Go.Proofs.Ytbjpoamnglfjeaa


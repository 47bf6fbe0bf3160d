/- Walks of package register: Install. -/
import Derived.Test.YtbjpoamnglfjeaaRegR
set_option linter.unusedVariables false
set_option linter.unusedSimpArgs false
namespace Go.Proofs.Ytbjpoamnglfjeaa
open Go.RowKit Cb

set_option maxRecDepth 100000 in
set_option maxHeartbeats 4000000 in
theorem install_right (B p : Nat) (rows : List Rw) (t : Int) (vq vs vt : Value) (q : List Int) (s : List (List Int)) (l : List Ent) (w : World) (hreg : RegS w B p rows) (hi : RowsI rows)
    (hq : Sl (Ge B) w vq q) (hs : Sl (Ge B) w vs s) (ht : Sl No w vt l) (hbt : TailI l) (hr : rightC t q s = true) :
    Calls Try.prog 33 #[.pointer (some ⟨p, 0, none⟩), cfgV t vq vs, vt] w fun e w' => e = .returned (.int .i64 (installF rows t q s l).1) ∧ Inst w w' p ∧ RegS w' B p (installF rows t q s l).2 := by
  obtain ⟨h7, h8, h3⟩ := right_small hr
  obtain ⟨ht1, ht2⟩ := (rightC_iff.1 hr).1
  obtain ⟨g, c, hc, hgp, hBg, hgw⟩ := rg_row hreg hi.1
  have hpw := hreg.lt
  have HI := Lib.hid (fun W (hW : Chg No w W) => Inst.no hreg hW)
  have hBp : B ≤ p := by obtain ⟨_, _, h, _⟩ := hreg; exact h
  have HqB := Lib.hid (fun W (hW : Chg (Ge B) w W) => hq.keep hW)
  have HsB := Lib.hid (fun W (hW : Chg (Ge B) w W) => hs.keep hW)
  replace hq := hq.no
  replace hs := hs.no
  obtain ⟨t1, he1⟩ : ∃ t1, t1 = t - 1 := ⟨_, rfl⟩
  have hw1 : IntKind.i64.wrap (t - 1) = t1 := by rw [IntWalk.i64_in _ (by omega)]; omega
  have hw2 : t - 1 = t1 := he1.symm
  have Hr := Lib.hid (fun W (hW : Chg No w W) => tright_any No No t vq vs q s W (hq.keepNo hW) (hs.keepNo hW) (by omega) (by omega) (fun x hx => by have := h3 x hx; omega))
  rw [hr] at Hr
  have Ha1 := Lib.hid (fun W (hW : Chg No w W) => rat_any B p rows W (hreg.keepNo hW) hi (hW.cell hc (not_no _)) rfl t1)
  have Ha2 := Lib.hid (fun W (hW : Chg No w W) => rat_any B p rows W (hreg.keepNo hW) hi (hW.cell hc (not_no _)) rfl t)
  have Hfi := Lib.hid (fun W (hW : Chg No w W) => fits_any (atV g (atR rows t1)) (nsF rows t1) vt l W ((rowp_any hreg hi hc t1).keep hW) (ht.keepNo hW) hbt.1 hbt.2)
  have hF : installF rows t q s l = installG rows t q s l (fitsB (nsF rows t1) l) (atR rows t) (atR rows t1) := by rw [installF, hr, Bool.true_and, hw2]
  generalize installF rows t q s l = R at *
  have HF := Lib.hid hF
  have Hq := Lib.hid (fun W (hW : Chg No w W) => hq.keepNo hW)
  have Hs := Lib.hid (fun W (hW : Chg No w W) => hs.keepNo hW)
  have Ht := Lib.hid (fun W (hW : Chg No w W) => ht.keepNo hW)
  have Hreg := Lib.hid (fun W (hW : Chg No w W) => hreg.keepNo hW)
  have Hh3 := Lib.hid h3
  have Hi := Lib.hid hi
  have Ha1F := Lib.hid (fun (i : Nat) (h : atR rows t1 = some i) => atR_some hi.1 h)
  have Ha2F := Lib.hid (fun (i : Nat) (h : atR rows t = some i) => atR_some hi.1 h)
  obtain ⟨Aq, cq, rfl⟩ := hq.slice
  obtain ⟨As, cs, rfl⟩ := hs.slice
  obtain ⟨At0, ct, rfl⟩ := ht.slice
  clear hq hs ht h3 hr hreg hF hi
  unfold cfgV at *
  have o1 := alloc_obj w (.cells #[.int .i64 t, .slice Aq q.length cq, .slice As s.length cs] 68)
  have hc0 := (Chg.refl No w).alloc (.cells #[.int .i64 t, .slice Aq q.length cq, .slice As s.length cs] 68)
  have a0 := cell_obj (i := 0) o1 rfl
  have a1 := cell_obj (i := 1) o1 rfl
  have a2 := cell_obj (i := 2) o1 rfl
  have Hsz := Lib.hid hc0.size
  obtain ⟨fb, hfb⟩ : ∃ b, b = fitsB (nsF rows t1) l := ⟨_, rfl⟩
  rw [← hfb] at Hfi HF
  have Hfbt := Lib.hid (fun h : fb = true => fits_tail (hfb ▸ h) hbt)
  obtain ⟨ao, hao⟩ : ∃ o, o = atR rows t1 := ⟨_, rfl⟩
  obtain ⟨oo, hoo⟩ : ∃ o, o = atR rows t := ⟨_, rfl⟩
  rw [← hao] at Ha1 Hfi HF Ha1F
  rw [← hoo] at Ha2 HF Ha2F
  clear hfb hao hoo he1 hbt
  go_enter Try.func33, Try.ntmps33
  go_wp2_with (first | (with_reducible refine stop_append ?_) | (with_reducible refine stop_copy ?_) | (with_reducible refine stop_make ?_) | (with_reducible refine stop_lookup ?_) | (with_reducible refine stop_update ?_) | (with_reducible refine stop_slice ?_) | (with_reducible refine stop_range ?_) | (with_reducible refine stop_next ?_) | (with_reducible refine stop_convert ⟨_, rfl⟩ ?_) | (with_reducible refine stop_convertB ⟨_, _, _, rfl⟩ ?_) | (with_reducible refine stop_eqSlice ⟨_, _, rfl⟩ ?_))
  have hbw : w.heap.size < (w.alloc (.cells #[.int .i64 t, .slice Aq q.length cq, .slice As s.length cs] 68)).heap.size := by simp
  generalize w.alloc (.cells #[.int .i64 t, .slice Aq q.length cq, .slice As s.length cs] 68) = w0 at *
  obtain ⟨b, hb⟩ : ∃ b, b = w.heap.size := ⟨_, rfl⟩
  rw [← hb] at a0 a1 a2 o1 ⊢
  have Hb := Lib.hid hb
  clear hb
  refine (Hr.out _ hc0).mono ?_
  rintro e w1 ⟨rfl, hc1⟩
  replace a0 := hc1.cell a0 (not_no _)
  replace a1 := hc1.cell a1 (not_no _)
  replace a2 := hc1.cell a2 (not_no _)
  have cw1 := hc0.trans hc1
  go_wp2_with (first | (with_reducible refine stop_append ?_) | (with_reducible refine stop_copy ?_) | (with_reducible refine stop_make ?_) | (with_reducible refine stop_lookup ?_) | (with_reducible refine stop_update ?_) | (with_reducible refine stop_slice ?_) | (with_reducible refine stop_range ?_) | (with_reducible refine stop_next ?_) | (with_reducible refine stop_convert ⟨_, rfl⟩ ?_) | (with_reducible refine stop_convertB ⟨_, _, _, rfl⟩ ?_) | (with_reducible refine stop_eqSlice ⟨_, _, rfl⟩ ?_))
  refine (Ha1.out _ cw1).mono ?_
  rintro e w2 ⟨rfl, hc2⟩
  replace a0 := hc2.cell a0 (not_no _)
  replace a1 := hc2.cell a1 (not_no _)
  replace a2 := hc2.cell a2 (not_no _)
  have cw2 := cw1.trans hc2
  go_wp2_with (first | (with_reducible refine stop_append ?_) | (with_reducible refine stop_copy ?_) | (with_reducible refine stop_make ?_) | (with_reducible refine stop_lookup ?_) | (with_reducible refine stop_update ?_) | (with_reducible refine stop_slice ?_) | (with_reducible refine stop_range ?_) | (with_reducible refine stop_next ?_) | (with_reducible refine stop_convert ⟨_, rfl⟩ ?_) | (with_reducible refine stop_convertB ⟨_, _, _, rfl⟩ ?_) | (with_reducible refine stop_eqSlice ⟨_, _, rfl⟩ ?_))
  refine (Hfi.out _ cw2).mono ?_
  rintro e w3 ⟨rfl, hc3⟩
  replace a0 := hc3.cell a0 (not_no _)
  replace a1 := hc3.cell a1 (not_no _)
  replace a2 := hc3.cell a2 (not_no _)
  have cw3 := cw2.trans hc3
  clear hc1 hc2 hc3 cw1 cw2
  rcases fb with _ | _
  · go_wp2_with (first | (with_reducible refine stop_append ?_) | (with_reducible refine stop_copy ?_) | (with_reducible refine stop_make ?_) | (with_reducible refine stop_lookup ?_) | (with_reducible refine stop_update ?_) | (with_reducible refine stop_slice ?_) | (with_reducible refine stop_range ?_) | (with_reducible refine stop_next ?_) | (with_reducible refine stop_convert ⟨_, rfl⟩ ?_) | (with_reducible refine stop_convertB ⟨_, _, _, rfl⟩ ?_) | (with_reducible refine stop_eqSlice ⟨_, _, rfl⟩ ?_))
    go_ret
    rw [HF.out]
    exact ⟨rfl, HI.out _ cw3, Hreg.out _ cw3⟩
  · have Hbt := Lib.hid (Hfbt.out rfl)
    go_wp2_with (first | (with_reducible refine stop_append ?_) | (with_reducible refine stop_copy ?_) | (with_reducible refine stop_make ?_) | (with_reducible refine stop_lookup ?_) | (with_reducible refine stop_update ?_) | (with_reducible refine stop_slice ?_) | (with_reducible refine stop_range ?_) | (with_reducible refine stop_next ?_) | (with_reducible refine stop_convert ⟨_, rfl⟩ ?_) | (with_reducible refine stop_convertB ⟨_, _, _, rfl⟩ ?_) | (with_reducible refine stop_eqSlice ⟨_, _, rfl⟩ ?_))
    refine pl_start (fun W => W.cell? ⟨b, 0, none⟩ = some (.int .i64 t) ∧ Chg No w3 W) (by kernel_rfl) (by kernel_rfl) ⟨a0, (Chg.refl No w3).drew⟩ ?_
    ((refine pl_yes (i := 0) (oi := { dst := some 22, op := Go.Op.move (Go.Operand.tmp 0), type := 65, pos := "register.go:87", after := #[], guard := none }) (v := ?_) rfl (by kernel_rfl) (by kernel_rfl) rfl ?_ ?_); rotate_left; focus (intro W hW; (try dsimp only at hW); go_split_ands; go_simp; (try (simp (disch := omega) only [IntWalk.i64_in]; (try go_simp))); (try (split; (next => omega); (try go_simp))); try rfl; done))
    try simp only [Act.put, List.setIfInBounds_toArray, List.set_cons_zero, List.set_cons_succ]
    ((refine pl_yes (i := 1) (oi := { dst := some 23, op := Go.Op.fieldAddr 68 (Go.Operand.tmp 4) 0, type := 0, pos := "register.go:87", after := #[], guard := none }) (v := ?_) rfl (by kernel_rfl) (by kernel_rfl) rfl ?_ ?_); rotate_left; focus (intro W hW; (try dsimp only at hW); go_split_ands; go_simp; (try (simp (disch := omega) only [IntWalk.i64_in]; (try go_simp))); (try (split; (next => omega); (try go_simp))); try rfl; done))
    try simp only [Act.put, List.setIfInBounds_toArray, List.set_cons_zero, List.set_cons_succ]
    ((refine pl_yes (i := 2) (oi := { dst := some 24, op := Go.Op.load 3 (Go.Operand.tmp 23), type := 3, pos := "register.go:87", after := #[{ on := 1, ground := Go.Ground.data }], guard := none }) (v := ?_) rfl (by kernel_rfl) (by kernel_rfl) rfl ?_ ?_); rotate_left; focus (intro W hW; (try dsimp only at hW); go_split_ands; go_simp; (try (simp (disch := omega) only [IntWalk.i64_in]; (try go_simp))); (try (split; (next => omega); (try go_simp))); try rfl; done))
    try simp only [Act.put, List.setIfInBounds_toArray, List.set_cons_zero, List.set_cons_succ]
    ((refine pl_yes (i := 3) (oi := { dst := some 25, op := Go.Op.binOp Go.BinOp.sub 3 (Go.Operand.tmp 24) (Go.Operand.const (Go.Value.int Go.IntKind.i64 1)) 3, type := 3, pos := "register.go:87", after := #[{ on := 2, ground := Go.Ground.data }], guard := none }) (v := ?_) rfl (by kernel_rfl) (by kernel_rfl) rfl ?_ ?_); rotate_left; focus (intro W hW; (try dsimp only at hW); go_split_ands; go_simp; (try (simp (disch := omega) only [IntWalk.i64_in]; (try go_simp))); (try (split; (next => omega); (try go_simp))); try rfl; done))
    try simp only [Act.put, List.setIfInBounds_toArray, List.set_cons_zero, List.set_cons_succ]
    ((refine pl_yes (i := 5) (oi := { dst := some 27, op := Go.Op.move (Go.Operand.tmp 0), type := 65, pos := "register.go:87", after := #[], guard := none }) (v := ?_) rfl (by kernel_rfl) (by kernel_rfl) rfl ?_ ?_); rotate_left; focus (intro W hW; (try dsimp only at hW); go_split_ands; go_simp; (try (simp (disch := omega) only [IntWalk.i64_in]; (try go_simp))); (try (split; (next => omega); (try go_simp))); try rfl; done))
    try simp only [Act.put, List.setIfInBounds_toArray, List.set_cons_zero, List.set_cons_succ]
    ((refine pl_yes (i := 6) (oi := { dst := some 28, op := Go.Op.fieldAddr 68 (Go.Operand.tmp 4) 0, type := 0, pos := "register.go:87", after := #[], guard := none }) (v := ?_) rfl (by kernel_rfl) (by kernel_rfl) rfl ?_ ?_); rotate_left; focus (intro W hW; (try dsimp only at hW); go_split_ands; go_simp; (try (simp (disch := omega) only [IntWalk.i64_in]; (try go_simp))); (try (split; (next => omega); (try go_simp))); try rfl; done))
    try simp only [Act.put, List.setIfInBounds_toArray, List.set_cons_zero, List.set_cons_succ]
    ((refine pl_yes (i := 7) (oi := { dst := some 29, op := Go.Op.load 3 (Go.Operand.tmp 28), type := 3, pos := "register.go:87", after := #[{ on := 6, ground := Go.Ground.data }], guard := none }) (v := ?_) rfl (by kernel_rfl) (by kernel_rfl) rfl ?_ ?_); rotate_left; focus (intro W hW; (try dsimp only at hW); go_split_ands; go_simp; (try (simp (disch := omega) only [IntWalk.i64_in]; (try go_simp))); (try (split; (next => omega); (try go_simp))); try rfl; done))
    try simp only [Act.put, List.setIfInBounds_toArray, List.set_cons_zero, List.set_cons_succ]
    -- ready: [4]
    refine pl_call (i := 4) (oi := { dst := some 26, op := Go.Op.call { callee := Go.Callee.value (Go.Operand.func 69), args := #[Go.Operand.tmp 22, Go.Operand.tmp 25], argTypes := #[65, 3] }, type := 139, pos := "register.go:87", after := #[{ on := 0, ground := Go.Ground.data }, { on := 3, ground := Go.Ground.data }], guard := none }) (.pointer (atV g ao)) rfl (by kernel_rfl) (by kernel_rfl) rfl (by exact (fun W hW => (Ha1.out W (cw3.trans hW.2)).mono fun e w' h => ⟨h.1, h.2.cell hW.1 (not_no _), hW.2.trans h.2⟩)) (fun W => by kernel_rfl) ?_
    try simp only [Act.put, List.setIfInBounds_toArray, List.set_cons_zero, List.set_cons_succ]
    -- ready: [8]
    refine pl_call (i := 8) (oi := { dst := some 30, op := Go.Op.call { callee := Go.Callee.value (Go.Operand.func 69), args := #[Go.Operand.tmp 27, Go.Operand.tmp 29], argTypes := #[65, 3] }, type := 139, pos := "register.go:87", after := #[{ on := 5, ground := Go.Ground.data }, { on := 7, ground := Go.Ground.data }, { on := 4, ground := Go.Ground.chain }], guard := none }) (.pointer (atV g oo)) rfl (by kernel_rfl) (by kernel_rfl) rfl (by exact (fun W hW => (Ha2.out W (cw3.trans hW.2)).mono fun e w' h => ⟨h.1, h.2.cell hW.1 (not_no _), hW.2.trans h.2⟩)) (fun W => by kernel_rfl) ?_
    try simp only [Act.put, List.setIfInBounds_toArray, List.set_cons_zero, List.set_cons_succ]
    ((refine pl_yes (i := 9) (oi := { dst := some 7, op := Go.Op.assign (Go.Operand.tmp 26), type := 139, pos := "register.go:87", after := #[{ on := 4, ground := Go.Ground.data }, { on := 8, ground := Go.Ground.chain }, { on := 0, ground := Go.Ground.phase }, { on := 1, ground := Go.Ground.phase }, { on := 2, ground := Go.Ground.phase }, { on := 3, ground := Go.Ground.phase }, { on := 4, ground := Go.Ground.phase }, { on := 5, ground := Go.Ground.textOnly Go.Departure.lateStores }, { on := 6, ground := Go.Ground.textOnly Go.Departure.lateStores }, { on := 7, ground := Go.Ground.textOnly Go.Departure.lateStores }, { on := 8, ground := Go.Ground.textOnly Go.Departure.lateStoresUnsure }], guard := none }) (v := ?_) rfl (by kernel_rfl) (by kernel_rfl) rfl ?_ ?_); rotate_left; focus (intro W hW; (try dsimp only at hW); go_split_ands; go_simp; (try (simp (disch := omega) only [IntWalk.i64_in]; (try go_simp))); (try (split; (next => omega); (try go_simp))); try rfl; done))
    try simp only [Act.put, List.setIfInBounds_toArray, List.set_cons_zero, List.set_cons_succ]
    ((refine pl_yes (i := 10) (oi := { dst := some 8, op := Go.Op.assign (Go.Operand.tmp 30), type := 139, pos := "register.go:87", after := #[{ on := 8, ground := Go.Ground.data }, { on := 9, ground := Go.Ground.chain }, { on := 0, ground := Go.Ground.phase }, { on := 1, ground := Go.Ground.phase }, { on := 2, ground := Go.Ground.phase }, { on := 3, ground := Go.Ground.phase }, { on := 4, ground := Go.Ground.phase }, { on := 5, ground := Go.Ground.phase }, { on := 6, ground := Go.Ground.phase }, { on := 7, ground := Go.Ground.phase }, { on := 8, ground := Go.Ground.phase }, { on := 9, ground := Go.Ground.phase }], guard := none }) (v := ?_) rfl (by kernel_rfl) (by kernel_rfl) rfl ?_ ?_); rotate_left; focus (intro W hW; (try dsimp only at hW); go_split_ands; go_simp; (try (simp (disch := omega) only [IntWalk.i64_in]; (try go_simp))); (try (split; (next => omega); (try go_simp))); try rfl; done))
    try simp only [Act.put, List.setIfInBounds_toArray, List.set_cons_zero, List.set_cons_succ]
    -- ready: []
    refine pl_done (by kernel_rfl)  ?_
    rintro w4 ⟨_, hc4⟩
    replace a0 := hc4.cell a0 (not_no _)
    replace a1 := hc4.cell a1 (not_no _)
    replace a2 := hc4.cell a2 (not_no _)
    have cw4 := cw3.trans hc4
    clear cw3 hc4
    rcases oo with _ | j
    · rcases ao with _ | i
      · simp only [atV, Option.map_none] at *
        go_wp2_with (first | (with_reducible refine stop_append ?_) | (with_reducible refine stop_copy ?_) | (with_reducible refine stop_make ?_) | (with_reducible refine stop_lookup ?_) | (with_reducible refine stop_update ?_) | (with_reducible refine stop_slice ?_) | (with_reducible refine stop_range ?_) | (with_reducible refine stop_next ?_) | (with_reducible refine stop_convert ⟨_, rfl⟩ ?_) | (with_reducible refine stop_convertB ⟨_, _, _, rfl⟩ ?_) | (with_reducible refine stop_eqSlice ⟨_, _, rfl⟩ ?_))
        go_ret
        rw [HF.out]
        exact ⟨rfl, HI.out _ cw4, Hreg.out _ cw4⟩
      · obtain ⟨hli, -⟩ := Ha1F.out i rfl
        have Hen := Lib.hid (fun W (hW : Chg No w4 W) => regents_any (.slice At0 l.length ct) l W (Ht.out W (cw4.trans hW)) Hbt.out.1 Hbt.out.2)
        simp only [atV, Option.map_none, Option.map_some] at *
        go_wp2_with (first | (with_reducible refine stop_append ?_) | (with_reducible refine stop_copy ?_) | (with_reducible refine stop_make ?_) | (with_reducible refine stop_lookup ?_) | (with_reducible refine stop_update ?_) | (with_reducible refine stop_slice ?_) | (with_reducible refine stop_range ?_) | (with_reducible refine stop_next ?_) | (with_reducible refine stop_convert ⟨_, rfl⟩ ?_) | (with_reducible refine stop_convertB ⟨_, _, _, rfl⟩ ?_) | (with_reducible refine stop_eqSlice ⟨_, _, rfl⟩ ?_))
        refine (Hen.out _ (Chg.refl _ _)).mono ?_
        rintro e w5 ⟨v5, rfl, hc5, hsn⟩
        obtain ⟨An, cn, rfl⟩ := hsn.slice
        replace a0 := hc5.cell a0 (not_no _)
        replace a1 := hc5.cell a1 (not_no _)
        replace a2 := hc5.cell a2 (not_no _)
        have cw5 := cw4.trans hc5
        have hReg5 := Hreg.out _ cw5
        have hz4 := cw4.size
        obtain ⟨_, _, vt2, -, -, -, m3, m4, -, -, -⟩ := rg_get hReg5 (cw5.cell hc (not_no _)) i hli
        obtain ⟨hR6, f3, f4⟩ := reg_over hReg5 (cw5.cell hc (not_no _)) i hli An l.length cn l (hsn.weak (fun k _ hk => by
          simp only [Lt]
          rcases hk with (hk | hk) | hk
          · simp only [Lt] at hk; omega
          · simp only [At] at hk; omega
          · simp only [At] at hk; omega))
        have c56 : Chg (At g) w5 (((w5.setCell ⟨g, i * 5 + 3, none⟩ (.slice An l.length cn)).setCell ⟨g, i * 5 + 4, none⟩ (.bool true))) := (chg_set _).trans (chg_set _)
        obtain ⟨r1, hr1⟩ : ∃ r, r = rows.set i (rows[i].1, rows[i].2.1, rows[i].2.2.1, l, true) := ⟨_, rfl⟩
        have HF2 := Lib.hid (show R = (0, r1 ++ [(t, q, s, [], false)]) by rw [HF.out, hr1, ← rowA_get rows i hli]; rfl)
        have Hl1 := Lib.hid (show r1.length = rows.length by rw [hr1]; simp)
        have hn64 := Hi.out.2.1
        rw [← hr1] at hR6
        obtain ⟨v6, o6, -, own6, hob⟩ := hR6
        have e6 := cell_obj (i := 0) o6 rfl
        have hcp := c56.cell (cw5.cell hc (not_no _)) (fun h : p = g => hgp h.symm)
        rw [hcp] at e6
        obtain rfl := Option.some.inj e6
        have Hown6 := Lib.hid own6
        have hbg : ¬ b = g := by have := Hb.out; omega
        replace a0 := c56.cell a0 hbg
        replace a1 := c56.cell a1 hbg
        replace a2 := c56.cell a2 hbg
        have cw6 : Chg (Ge B) w (((w5.setCell ⟨g, i * 5 + 3, none⟩ (.slice An l.length cn)).setCell ⟨g, i * 5 + 4, none⟩ (.bool true))) := cw5.of_no.trans (c56.weak (fun k _ hk => by simp only [At] at hk; simp only [Ge]; omega))
        have cv6 : Chg (RegF w p) w (((w5.setCell ⟨g, i * 5 + 3, none⟩ (.slice An l.length cn)).setCell ⟨g, i * 5 + 4, none⟩ (.bool true))) := cw5.of_no.trans (c56.weak (fun k _ hk => (regF_iff hc k).2 (.inr hk)))
        have hz6 : w5.heap.size ≤ (((w5.setCell ⟨g, i * 5 + 3, none⟩ (.slice An l.length cn)).setCell ⟨g, i * 5 + 4, none⟩ (.bool true))).heap.size := c56.size
        clear own6 hob hcp hsn hReg5 hr1 c56
        go_wp2_with (first | (with_reducible refine stop_append ?_) | (with_reducible refine stop_copy ?_) | (with_reducible refine stop_make ?_) | (with_reducible refine stop_lookup ?_) | (with_reducible refine stop_update ?_) | (with_reducible refine stop_slice ?_) | (with_reducible refine stop_range ?_) | (with_reducible refine stop_next ?_) | (with_reducible refine stop_convert ⟨_, rfl⟩ ?_) | (with_reducible refine stop_convertB ⟨_, _, _, rfl⟩ ?_) | (with_reducible refine stop_eqSlice ⟨_, _, rfl⟩ ?_))
        clear m3 m4 f3 f4
        generalize ((w5.setCell ⟨g, i * 5 + 3, none⟩ (.slice An l.length cn)).setCell ⟨g, i * 5 + 4, none⟩ (.bool true)) = w6 at *
        have Ho := Lib.hid (fun W (hW : Chg No w6 W) => own_any t (.slice Aq q.length cq) (.slice As s.length cs) (.slice none 0 0) false q s [] W (HqB.out W (cw6.trans hW.of_no)).no (HsB.out W (cw6.trans hW.of_no)).no (Sl.nil _ _ _ _) (by omega) (by omega) (fun x hx => by have := Hh3.out x hx; omega) (by simp) (fun _ h => by cases h))
        unfold rowV at Ho
        have hz5 := cw5.size
        have HS := Lib.hid (show ∀ W, Chg No w6 W → (fun W => W.cell? ⟨p, 0, none⟩ = some (.slice (some ⟨g, 0, none⟩) rows.length c) ∧ W.cell? ⟨b, 0, none⟩ = some (.int .i64 t) ∧ W.cell? ⟨b, 1, none⟩ = some (.slice Aq q.length cq) ∧ W.cell? ⟨b, 2, none⟩ = some (.slice As s.length cs)) W from fun W hW => ⟨cell_obj (hW.obj o6 (not_no _)) rfl, hW.cell a0 (not_no _), hW.cell a1 (not_no _), hW.cell a2 (not_no _)⟩)
        have cd := (Chg.refl No w6).drew
        refine rt_start (fun W => W.cell? ⟨p, 0, none⟩ = some (.slice (some ⟨g, 0, none⟩) rows.length c) ∧ W.cell? ⟨b, 0, none⟩ = some (.int .i64 t) ∧ W.cell? ⟨b, 1, none⟩ = some (.slice Aq q.length cq) ∧ W.cell? ⟨b, 2, none⟩ = some (.slice As s.length cs)) (by kernel_rfl) ?_
        ((refine rt_yes (i := 0) (oi := { dst := some 65, op := Go.Op.move (Go.Operand.tmp 0), type := 65, pos := "register.go:98", after := #[], guard := none }) (v := ?_) rfl (by kernel_rfl) (by kernel_rfl) (by kernel_rfl) (fun _ _ _ h => h) rfl ?_ ?_); rotate_left; focus (intro W hW; (try dsimp only at hW); go_split_ands; go_simp; (try (simp (disch := omega) only [IntWalk.i64_in]; (try go_simp))); (try (split; (next => omega); (try go_simp))); try rfl; done))
        try simp only [Act.put, List.setIfInBounds_toArray, List.set_cons_zero, List.set_cons_succ]
        ((refine rt_yes (i := 1) (oi := { dst := some 66, op := Go.Op.move (Go.Operand.tmp 0), type := 65, pos := "register.go:98", after := #[], guard := none }) (v := ?_) rfl (by kernel_rfl) (by kernel_rfl) (by kernel_rfl) (fun _ _ _ h => h) rfl ?_ ?_); rotate_left; focus (intro W hW; (try dsimp only at hW); go_split_ands; go_simp; (try (simp (disch := omega) only [IntWalk.i64_in]; (try go_simp))); (try (split; (next => omega); (try go_simp))); try rfl; done))
        try simp only [Act.put, List.setIfInBounds_toArray, List.set_cons_zero, List.set_cons_succ]
        ((refine rt_yes (i := 2) (oi := { dst := some 67, op := Go.Op.nilCheck (Go.Operand.tmp 66), type := 0, pos := "register.go:98", after := #[{ on := 1, ground := Go.Ground.data }], guard := none }) (v := ?_) rfl (by kernel_rfl) (by kernel_rfl) (by kernel_rfl) (fun _ _ _ h => h) rfl ?_ ?_); rotate_left; focus (intro W hW; (try dsimp only at hW); go_split_ands; go_simp; (try (simp (disch := omega) only [IntWalk.i64_in]; (try go_simp))); (try (split; (next => omega); (try go_simp))); try rfl; done))
        try simp only [Act.put, List.setIfInBounds_toArray, List.set_cons_zero, List.set_cons_succ]
        ((refine rt_yes (i := 3) (oi := { dst := some 68, op := Go.Op.fieldAddr 137 (Go.Operand.tmp 67) 0, type := 0, pos := "register.go:98", after := #[{ on := 2, ground := Go.Ground.data }], guard := none }) (v := ?_) rfl (by kernel_rfl) (by kernel_rfl) (by kernel_rfl) (fun _ _ _ h => h) rfl ?_ ?_); rotate_left; focus (intro W hW; (try dsimp only at hW); go_split_ands; go_simp; (try (simp (disch := omega) only [IntWalk.i64_in]; (try go_simp))); (try (split; (next => omega); (try go_simp))); try rfl; done))
        try simp only [Act.put, List.setIfInBounds_toArray, List.set_cons_zero, List.set_cons_succ]
        ((refine rt_yes (i := 4) (oi := { dst := some 69, op := Go.Op.load 135 (Go.Operand.tmp 68), type := 135, pos := "register.go:98", after := #[{ on := 3, ground := Go.Ground.data }], guard := none }) (v := ?_) rfl (by kernel_rfl) (by kernel_rfl) (by kernel_rfl) (fun _ _ _ h => h) rfl ?_ ?_); rotate_left; focus (intro W hW; (try dsimp only at hW); go_split_ands; go_simp; (try (simp (disch := omega) only [IntWalk.i64_in]; (try go_simp))); (try (split; (next => omega); (try go_simp))); try rfl; done))
        try simp only [Act.put, List.setIfInBounds_toArray, List.set_cons_zero, List.set_cons_succ]
        ((refine rt_yes (i := 5) (oi := { dst := some 70, op := Go.Op.load 68 (Go.Operand.tmp 4), type := 68, pos := "register.go:98", after := #[], guard := none }) (v := ?_) rfl (by kernel_rfl) (by kernel_rfl) (by kernel_rfl) (fun _ _ _ h => h) rfl ?_ ?_); rotate_left; focus (intro W hW; (try dsimp only at hW); go_split_ands; go_simp; (try (simp (disch := omega) only [IntWalk.i64_in]; (try go_simp))); (try (split; (next => omega); (try go_simp))); try rfl; done))
        try simp only [Act.put, List.setIfInBounds_toArray, List.set_cons_zero, List.set_cons_succ]
        ((refine rt_yes (i := 6) (oi := { dst := some 71, op := Go.Op.build 88 #[(0, Go.Operand.tmp 70)], type := 88, pos := "register.go:98", after := #[{ on := 5, ground := Go.Ground.data }], guard := none }) (v := ?_) rfl (by kernel_rfl) (by kernel_rfl) (by kernel_rfl) (fun _ _ _ h => h) rfl ?_ ?_); rotate_left; focus (intro W hW; (try dsimp only at hW); go_split_ands; go_simp; (try (simp (disch := omega) only [IntWalk.i64_in]; (try go_simp))); (try (split; (next => omega); (try go_simp))); try rfl; done))
        try simp only [Act.put, List.setIfInBounds_toArray, List.set_cons_zero, List.set_cons_succ]
        -- ready: [7]
        refine rt_k (fun W => W.cell? ⟨p, 0, none⟩ = some (.slice (some ⟨g, 0, none⟩) rows.length c) ∧ W.cell? ⟨b, 0, none⟩ = some (.int .i64 t) ∧ W.cell? ⟨b, 1, none⟩ = some (.slice Aq q.length cq) ∧ W.cell? ⟨b, 2, none⟩ = some (.slice As s.length cs)) (i := 7) (oi := { dst := some 72, op := Go.Op.call { callee := Go.Callee.value (Go.Operand.func 67), args := #[Go.Operand.tmp 71], argTypes := #[88] }, type := 88, pos := "register.go:98", after := #[{ on := 6, ground := Go.Ground.data }], guard := none }) (by kernel_rfl) (HS.out _ cd) (fun _ h => h) rfl (by rfl) (fun K hK => ?_)
        go_simp
        refine (Ho.out _ cd).mono ?_
        rintro e w7 ⟨vq7, vs7, vt7, rfl, hc7, hq7, hs7, ht7⟩
        obtain ⟨Bq, dq, rfl⟩ := hq7.slice
        obtain ⟨Bs, ds, rfl⟩ := hs7.slice
        obtain ⟨Bt, dt, rfl⟩ := ht7.slice
        simp only [List.length_nil]
        have cd7 := cd.trans hc7
        refine hK _ _ ?_
        clear hK K
        try simp only [Act.put, List.setIfInBounds_toArray, List.set_cons_zero, List.set_cons_succ]
        -- ready: [8]
        refine rt_k (fun W => W.cell? ⟨p, 0, none⟩ = some (.slice (some ⟨g, 0, none⟩) rows.length c) ∧ W.cell? ⟨b, 0, none⟩ = some (.int .i64 t) ∧ W.cell? ⟨b, 1, none⟩ = some (.slice Aq q.length cq) ∧ W.cell? ⟨b, 2, none⟩ = some (.slice As s.length cs)) (i := 8) (oi := { dst := some 73, op := Go.Op.buildSlice 135 1 #[(0, Go.Operand.tmp 72)], type := 135, pos := "register.go:98", after := #[{ on := 7, ground := Go.Ground.data }], guard := none }) (by kernel_rfl) (HS.out _ cd7) (fun _ h => h) rfl (by rfl) (fun K hK => ?_)
        go_simp
        refine hK _ _ ?_
        clear hK K
        try simp only [Act.put, List.setIfInBounds_toArray, List.set_cons_zero, List.set_cons_succ]
        -- ready: [9]
        have hdr : w6.drew.heap.size = w6.heap.size := rfl
        have hwk : ∀ k, k < w7.heap.size → Or (Or (Lt B) (At p)) (OB (.slice (some ⟨g, 0, none⟩) rows.length c)) k → Lt w6.drew.heap.size k := fun k _ hk => by
          simp only [Lt]
          rcases hk with (hk | hk) | hk
          · simp only [Lt] at hk; omega
          · simp only [At] at hk; omega
          · simp only [OB, Value.ownBlock, Option.some.injEq] at hk; omega
        have hlit : Sl (Or (Or (Lt B) (At p)) (OB (.slice (some ⟨g, 0, none⟩) rows.length c))) (w7.alloc (.cells #[.int .i64 t, .slice Bq q.length dq, .slice Bs s.length ds, .slice Bt 0 dt, .bool false] 88)) (.slice (some ⟨w7.heap.size, 0, none⟩) 1 1) [((t, q, s, [], false) : Rw)] :=
          Sl.lit1 rfl (rw_mk (t, q, s, [], false) (hq7.weak hwk) (hs7.weak hwk) (ht7.weak hwk)) (fun hk => by
            have := cd7.size
            rcases hk with (hk | hk) | hk
            · simp only [Lt] at hk; omega
            · simp only [At] at hk; omega
            · simp only [OB, Value.ownBlock, Option.some.injEq] at hk; omega)
        have cd8 := cd7.alloc (.cells #[.int .i64 t, .slice Bq q.length dq, .slice Bs s.length ds, .slice Bt 0 dt, .bool false] 88)
        refine rt_append_sl (α := Rw) (F := Or (Lt B) (At p)) (G := Or (Or (Lt B) (At p)) (OB (.slice (some ⟨g, 0, none⟩) rows.length c))) (fun W => W.cell? ⟨p, 0, none⟩ = some (.slice (some ⟨g, 0, none⟩) rows.length c) ∧ W.cell? ⟨b, 0, none⟩ = some (.int .i64 t) ∧ W.cell? ⟨b, 1, none⟩ = some (.slice Aq q.length cq) ∧ W.cell? ⟨b, 2, none⟩ = some (.slice As s.length cs)) (i := 9) (by kernel_rfl) (HS.out _ cd8) (fun _ h => h) rfl rfl Try.underlying135 info_rw rfl (Hown6.out.keep cd8 (fun _ _ f => f.elim) (fun _ _ f => f)) rfl rfl hlit (fun i _ hi => hi) (by have := Hl1.out; simp; omega) (by have := Hl1.out; simp; omega) (by have := cd8.size; omega) ?_
        intro v9 w9 hown9 hg9
        have hpOB : ¬ OB (.slice (some ⟨g, 0, none⟩) rows.length c) p := fun h => by simp only [OB, Value.ownBlock, Option.some.injEq] at h; omega
        have hbOB : ¬ OB (.slice (some ⟨g, 0, none⟩) rows.length c) b := fun h => by simp only [OB, Value.ownBlock, Option.some.injEq] at h; omega
        have o9 := hg9.chg.obj (cd8.obj o6 (not_no _)) hpOB
        have z9 := cell_obj (i := 0) o9 rfl
        have f9 := free_obj (i := 0) o9
        have b0 := hg9.chg.cell (cd8.cell a0 (not_no _)) hbOB
        have b1 := hg9.chg.cell (cd8.cell a1 (not_no _)) hbOB
        have b2 := hg9.chg.cell (cd8.cell a2 (not_no _)) hbOB
        have cw9 : Chg (RegF w p) w w9 := (cv6.trans cd8.of_no).grew hg9 (fun k hk => by simp only [Value.ownBlock, Option.some.injEq] at hk; exact .inl ((regF_iff hc k).2 (.inr hk.symm)))
        obtain ⟨A9, c9, e9⟩ := hown9.slice
        subst e9
        have hob9 : ∀ k, (Value.slice A9 (r1 ++ [((t, q, s, [], false) : Rw)]).length c9).ownBlock = some k → k ≠ p := fun k hk => by
          have := cd8.size
          rcases hg9.blk k hk with h | h
          · simp only [Value.ownBlock, Option.some.injEq] at h; omega
          · omega
        have Hfn := Lib.hid (show ∀ k, (Value.slice A9 (r1 ++ [((t, q, s, [], false) : Rw)]).length c9).ownBlock = some k → RegF w p k ∨ w.heap.size ≤ k from fun k hk => by
          have := cd8.size
          rcases hg9.blk k hk with h | h
          · simp only [Value.ownBlock, Option.some.injEq] at h; exact .inl ((regF_iff hc k).2 (.inr h.symm))
          · exact .inr (by omega))
        have Hown9 := Lib.hid hown9
        have Hob9 := Lib.hid hob9
        have Ho9 := Lib.hid o9
        generalize hn9 : (r1 ++ [((t, q, s, [], false) : Rw)]).length = n9 at *
        have Hn9 := Lib.hid hn9
        clear hown9 hob9 o9 hlit hwk hg9 hn9 hq7 hs7 ht7
        try simp only [Act.put, List.setIfInBounds_toArray, List.set_cons_zero, List.set_cons_succ]
        ((refine rt_yes (i := 10) (oi := { dst := some 75, op := Go.Op.nilCheck (Go.Operand.tmp 65), type := 0, pos := "register.go:98", after := #[{ on := 0, ground := Go.Ground.data }, { on := 0, ground := Go.Ground.phase }, { on := 1, ground := Go.Ground.phase }, { on := 2, ground := Go.Ground.phase }, { on := 3, ground := Go.Ground.phase }, { on := 4, ground := Go.Ground.phase }, { on := 5, ground := Go.Ground.phase }, { on := 6, ground := Go.Ground.phase }, { on := 7, ground := Go.Ground.phase }, { on := 8, ground := Go.Ground.phase }, { on := 9, ground := Go.Ground.phase }], guard := none }) (v := ?_) rfl (by kernel_rfl) (by kernel_rfl) (by kernel_rfl) (fun _ _ _ h => h) rfl ?_ ?_); rotate_left; focus (intro W hW; (try dsimp only at hW); go_split_ands; go_simp; (try (simp (disch := omega) only [IntWalk.i64_in]; (try go_simp))); (try (split; (next => omega); (try go_simp))); try rfl; done))
        try simp only [Act.put, List.setIfInBounds_toArray, List.set_cons_zero, List.set_cons_succ]
        ((refine rt_yes (i := 11) (oi := { dst := some 76, op := Go.Op.fieldAddr 137 (Go.Operand.tmp 75) 0, type := 0, pos := "register.go:98", after := #[{ on := 10, ground := Go.Ground.data }, { on := 0, ground := Go.Ground.phase }, { on := 1, ground := Go.Ground.phase }, { on := 2, ground := Go.Ground.phase }, { on := 3, ground := Go.Ground.phase }, { on := 4, ground := Go.Ground.phase }, { on := 5, ground := Go.Ground.phase }, { on := 6, ground := Go.Ground.phase }, { on := 7, ground := Go.Ground.phase }, { on := 8, ground := Go.Ground.phase }, { on := 9, ground := Go.Ground.phase }], guard := none }) (v := ?_) rfl (by kernel_rfl) (by kernel_rfl) (by kernel_rfl) (fun _ _ _ h => h) rfl ?_ ?_); rotate_left; focus (intro W hW; (try dsimp only at hW); go_split_ands; go_simp; (try (simp (disch := omega) only [IntWalk.i64_in]; (try go_simp))); (try (split; (next => omega); (try go_simp))); try rfl; done))
        try simp only [Act.put, List.setIfInBounds_toArray, List.set_cons_zero, List.set_cons_succ]
        -- ready: [12]
        refine rt_k (fun W => W.cell? ⟨p, 0, none⟩ = some (.slice (some ⟨g, 0, none⟩) rows.length c) ∧ W.cell? ⟨b, 0, none⟩ = some (.int .i64 t) ∧ W.cell? ⟨b, 1, none⟩ = some (.slice Aq q.length cq) ∧ W.cell? ⟨b, 2, none⟩ = some (.slice As s.length cs)) (i := 12) (oi := { dst := none, op := Go.Op.store 135 (Go.Operand.tmp 76) (Go.Operand.tmp 74), type := 0, pos := "register.go:98", after := #[{ on := 11, ground := Go.Ground.data }, { on := 9, ground := Go.Ground.data }, { on := 9, ground := Go.Ground.chain }, { on := 0, ground := Go.Ground.phase }, { on := 1, ground := Go.Ground.phase }, { on := 2, ground := Go.Ground.phase }, { on := 3, ground := Go.Ground.phase }, { on := 4, ground := Go.Ground.phase }, { on := 5, ground := Go.Ground.phase }, { on := 6, ground := Go.Ground.phase }, { on := 7, ground := Go.Ground.phase }, { on := 8, ground := Go.Ground.phase }, { on := 9, ground := Go.Ground.phase }], guard := none }) (by kernel_rfl) ⟨z9, b0, b1, b2⟩ (fun _ h => h) rfl (by rfl) (fun K hK => ?_)
        go_simp
        refine hK _ _ ?_
        clear hK K
        try simp only [Act.put, List.setIfInBounds_toArray, List.set_cons_zero, List.set_cons_succ]
        -- ready: []
        refine rt_done (by kernel_rfl)  ?_
        go_wp2_with (first | (with_reducible refine stop_append ?_) | (with_reducible refine stop_copy ?_) | (with_reducible refine stop_make ?_) | (with_reducible refine stop_lookup ?_) | (with_reducible refine stop_update ?_) | (with_reducible refine stop_slice ?_) | (with_reducible refine stop_range ?_) | (with_reducible refine stop_next ?_) | (with_reducible refine stop_convert ⟨_, rfl⟩ ?_) | (with_reducible refine stop_convertB ⟨_, _, _, rfl⟩ ?_) | (with_reducible refine stop_eqSlice ⟨_, _, rfl⟩ ?_))
        go_ret
        rw [HF2.out]
        have oF := obj_set (i := 0) (u := .slice A9 n9 c9) Ho9.out rfl
        refine ⟨rfl, ⟨cw9.setCell (p := ⟨p, 0, none⟩) (.inl (.inl rfl)) _, fun k hk => ?_⟩, _, obj_set Ho9.out rfl, hBp, Hown9.out.keep (chg_set _) (fun k _ hk => .inr hk) (fun k hk h => Hob9.out k hk h), Hob9.out⟩
        rcases hk with rfl | ⟨v, h1, h2⟩
        · exact .inl (.inl rfl)
        · rw [cell_obj (i := 0) oF rfl] at h1
          cases h1
          exact Hfn.out k h2
    · rcases ao with _ | i
      · simp only [atV, Option.map_none, Option.map_some] at *
        go_wp2_with (first | (with_reducible refine stop_append ?_) | (with_reducible refine stop_copy ?_) | (with_reducible refine stop_make ?_) | (with_reducible refine stop_lookup ?_) | (with_reducible refine stop_update ?_) | (with_reducible refine stop_slice ?_) | (with_reducible refine stop_range ?_) | (with_reducible refine stop_next ?_) | (with_reducible refine stop_convert ⟨_, rfl⟩ ?_) | (with_reducible refine stop_convertB ⟨_, _, _, rfl⟩ ?_) | (with_reducible refine stop_eqSlice ⟨_, _, rfl⟩ ?_))
        refine pl_start (fun W => Chg No w4 W) (by kernel_rfl) (by kernel_rfl) (Chg.refl No w4).drew ?_
        ((refine pl_yes (i := 0) (oi := { dst := some 34, op := Go.Op.move (Go.Operand.tmp 7), type := 139, pos := "register.go:90", after := #[], guard := none }) (v := ?_) rfl (by kernel_rfl) (by kernel_rfl) rfl ?_ ?_); rotate_left; focus (intro W hW; (try dsimp only at hW); go_split_ands; go_simp; (try (simp (disch := omega) only [IntWalk.i64_in]; (try go_simp))); (try (split; (next => omega); (try go_simp))); try rfl; done))
        try simp only [Act.put, List.setIfInBounds_toArray, List.set_cons_zero, List.set_cons_succ]
        ((refine pl_yes (i := 1) (oi := { dst := some 35, op := Go.Op.binOp Go.BinOp.eql 139 (Go.Operand.tmp 34) (Go.Operand.const (Go.Value.pointer none)) 139, type := 4, pos := "register.go:90", after := #[{ on := 0, ground := Go.Ground.data }], guard := none }) (v := ?_) rfl (by kernel_rfl) (by kernel_rfl) rfl ?_ ?_); rotate_left; focus (intro W hW; (try dsimp only at hW); go_split_ands; go_simp; (try (simp (disch := omega) only [IntWalk.i64_in]; (try go_simp))); (try (split; (next => omega); (try go_simp))); try rfl; done))
        try simp only [Act.put, List.setIfInBounds_toArray, List.set_cons_zero, List.set_cons_succ]
        ((refine pl_yes (i := 2) (oi := { dst := some 36, op := Go.Op.move (Go.Operand.tmp 35), type := 4, pos := "register.go:90", after := #[{ on := 1, ground := Go.Ground.data }], guard := none }) (v := ?_) rfl (by kernel_rfl) (by kernel_rfl) rfl ?_ ?_); rotate_left; focus (intro W hW; (try dsimp only at hW); go_split_ands; go_simp; (try (simp (disch := omega) only [IntWalk.i64_in]; (try go_simp))); (try (split; (next => omega); (try go_simp))); try rfl; done))
        try simp only [Act.put, List.setIfInBounds_toArray, List.set_cons_zero, List.set_cons_succ]
        first | (refine pl_no (i := 3) (oi := { dst := some 37, op := Go.Op.move (Go.Operand.tmp 8), type := 139, pos := "register.go:90", after := #[{ on := 2, ground := Go.Ground.guard }], guard := some (2, false) }) rfl (by kernel_rfl) (by kernel_rfl) rfl ?_) | ((refine pl_yes (i := 3) (oi := { dst := some 37, op := Go.Op.move (Go.Operand.tmp 8), type := 139, pos := "register.go:90", after := #[{ on := 2, ground := Go.Ground.guard }], guard := some (2, false) }) (v := ?_) rfl (by kernel_rfl) (by kernel_rfl) rfl ?_ ?_); rotate_left; focus (intro W hW; (try dsimp only at hW); go_split_ands; go_simp; (try (simp (disch := omega) only [IntWalk.i64_in]; (try go_simp))); (try (split; (next => omega); (try go_simp))); try rfl; done))
        try simp only [Act.put, List.setIfInBounds_toArray, List.set_cons_zero, List.set_cons_succ]
        first | (refine pl_no (i := 4) (oi := { dst := some 38, op := Go.Op.nilCheck (Go.Operand.tmp 37), type := 0, pos := "register.go:90", after := #[{ on := 3, ground := Go.Ground.data }, { on := 2, ground := Go.Ground.guard }], guard := some (2, false) }) rfl (by kernel_rfl) (by kernel_rfl) rfl ?_) | ((refine pl_yes (i := 4) (oi := { dst := some 38, op := Go.Op.nilCheck (Go.Operand.tmp 37), type := 0, pos := "register.go:90", after := #[{ on := 3, ground := Go.Ground.data }, { on := 2, ground := Go.Ground.guard }], guard := some (2, false) }) (v := ?_) rfl (by kernel_rfl) (by kernel_rfl) rfl ?_ ?_); rotate_left; focus (intro W hW; (try dsimp only at hW); go_split_ands; go_simp; (try (simp (disch := omega) only [IntWalk.i64_in]; (try go_simp))); (try (split; (next => omega); (try go_simp))); try rfl; done))
        try simp only [Act.put, List.setIfInBounds_toArray, List.set_cons_zero, List.set_cons_succ]
        first | (refine pl_no (i := 5) (oi := { dst := some 39, op := Go.Op.fieldAddr 88 (Go.Operand.tmp 38) 0, type := 0, pos := "register.go:90", after := #[{ on := 4, ground := Go.Ground.data }, { on := 2, ground := Go.Ground.guard }], guard := some (2, false) }) rfl (by kernel_rfl) (by kernel_rfl) rfl ?_) | ((refine pl_yes (i := 5) (oi := { dst := some 39, op := Go.Op.fieldAddr 88 (Go.Operand.tmp 38) 0, type := 0, pos := "register.go:90", after := #[{ on := 4, ground := Go.Ground.data }, { on := 2, ground := Go.Ground.guard }], guard := some (2, false) }) (v := ?_) rfl (by kernel_rfl) (by kernel_rfl) rfl ?_ ?_); rotate_left; focus (intro W hW; (try dsimp only at hW); go_split_ands; go_simp; (try (simp (disch := omega) only [IntWalk.i64_in]; (try go_simp))); (try (split; (next => omega); (try go_simp))); try rfl; done))
        try simp only [Act.put, List.setIfInBounds_toArray, List.set_cons_zero, List.set_cons_succ]
        first | (refine pl_no (i := 6) (oi := { dst := some 40, op := Go.Op.load 68 (Go.Operand.tmp 39), type := 68, pos := "register.go:90", after := #[{ on := 5, ground := Go.Ground.data }, { on := 2, ground := Go.Ground.guard }], guard := some (2, false) }) rfl (by kernel_rfl) (by kernel_rfl) rfl ?_) | ((refine pl_yes (i := 6) (oi := { dst := some 40, op := Go.Op.load 68 (Go.Operand.tmp 39), type := 68, pos := "register.go:90", after := #[{ on := 5, ground := Go.Ground.data }, { on := 2, ground := Go.Ground.guard }], guard := some (2, false) }) (v := ?_) rfl (by kernel_rfl) (by kernel_rfl) rfl ?_ ?_); rotate_left; focus (intro W hW; (try dsimp only at hW); go_split_ands; go_simp; (try (simp (disch := omega) only [IntWalk.i64_in]; (try go_simp))); (try (split; (next => omega); (try go_simp))); try rfl; done))
        try simp only [Act.put, List.setIfInBounds_toArray, List.set_cons_zero, List.set_cons_succ]
        first | (refine pl_no (i := 7) (oi := { dst := some 41, op := Go.Op.load 68 (Go.Operand.tmp 4), type := 68, pos := "register.go:90", after := #[{ on := 2, ground := Go.Ground.guard }], guard := some (2, false) }) rfl (by kernel_rfl) (by kernel_rfl) rfl ?_) | ((refine pl_yes (i := 7) (oi := { dst := some 41, op := Go.Op.load 68 (Go.Operand.tmp 4), type := 68, pos := "register.go:90", after := #[{ on := 2, ground := Go.Ground.guard }], guard := some (2, false) }) (v := ?_) rfl (by kernel_rfl) (by kernel_rfl) rfl ?_ ?_); rotate_left; focus (intro W hW; (try dsimp only at hW); go_split_ands; go_simp; (try (simp (disch := omega) only [IntWalk.i64_in]; (try go_simp))); (try (split; (next => omega); (try go_simp))); try rfl; done))
        try simp only [Act.put, List.setIfInBounds_toArray, List.set_cons_zero, List.set_cons_succ]
        -- ready: [8]
        refine pl_no (i := 8) (oi := { dst := some 42, op := Go.Op.call { callee := Go.Callee.value (Go.Operand.func 44), args := #[Go.Operand.tmp 40, Go.Operand.tmp 41], argTypes := #[68, 68] }, type := 4, pos := "register.go:90", after := #[{ on := 6, ground := Go.Ground.data }, { on := 7, ground := Go.Ground.data }, { on := 2, ground := Go.Ground.chain }, { on := 2, ground := Go.Ground.guard }], guard := some (2, false) }) rfl (by kernel_rfl) (by kernel_rfl) rfl ?_
        try simp only [Act.put, List.setIfInBounds_toArray, List.set_cons_zero, List.set_cons_succ]
        first | (refine pl_no (i := 9) (oi := { dst := some 43, op := Go.Op.unOp Go.UnOp.not 4 (Go.Operand.tmp 42), type := 4, pos := "register.go:90", after := #[{ on := 8, ground := Go.Ground.data }, { on := 2, ground := Go.Ground.guard }], guard := some (2, false) }) rfl (by kernel_rfl) (by kernel_rfl) rfl ?_) | ((refine pl_yes (i := 9) (oi := { dst := some 43, op := Go.Op.unOp Go.UnOp.not 4 (Go.Operand.tmp 42), type := 4, pos := "register.go:90", after := #[{ on := 8, ground := Go.Ground.data }, { on := 2, ground := Go.Ground.guard }], guard := some (2, false) }) (v := ?_) rfl (by kernel_rfl) (by kernel_rfl) rfl ?_ ?_); rotate_left; focus (intro W hW; (try dsimp only at hW); go_split_ands; go_simp; (try (simp (disch := omega) only [IntWalk.i64_in]; (try go_simp))); (try (split; (next => omega); (try go_simp))); try rfl; done))
        try simp only [Act.put, List.setIfInBounds_toArray, List.set_cons_zero, List.set_cons_succ]
        ((refine pl_yes (i := 10) (oi := { dst := some 44, op := Go.Op.pick (Go.Operand.tmp 36) (Go.Operand.const (Go.Value.bool true)) (Go.Operand.tmp 43), type := 4, pos := "register.go:90", after := #[{ on := 2, ground := Go.Ground.data }, { on := 9, ground := Go.Ground.data }], guard := none }) (v := ?_) rfl (by kernel_rfl) (by kernel_rfl) rfl ?_ ?_); rotate_left; focus (intro W hW; (try dsimp only at hW); go_split_ands; go_simp; (try (simp (disch := omega) only [IntWalk.i64_in]; (try go_simp))); (try (split; (next => omega); (try go_simp))); try rfl; done))
        try simp only [Act.put, List.setIfInBounds_toArray, List.set_cons_zero, List.set_cons_succ]
        ((refine pl_yes (i := 11) (oi := { dst := some 45, op := Go.Op.move (Go.Operand.tmp 44), type := 4, pos := "register.go:90", after := #[{ on := 10, ground := Go.Ground.data }, { on := 8, ground := Go.Ground.chain }], guard := none }) (v := ?_) rfl (by kernel_rfl) (by kernel_rfl) rfl ?_ ?_); rotate_left; focus (intro W hW; (try dsimp only at hW); go_split_ands; go_simp; (try (simp (disch := omega) only [IntWalk.i64_in]; (try go_simp))); (try (split; (next => omega); (try go_simp))); try rfl; done))
        try simp only [Act.put, List.setIfInBounds_toArray, List.set_cons_zero, List.set_cons_succ]
        first | (refine pl_no (i := 12) (oi := { dst := some 46, op := Go.Op.move (Go.Operand.tmp 7), type := 139, pos := "register.go:90", after := #[{ on := 11, ground := Go.Ground.guard }], guard := some (11, false) }) rfl (by kernel_rfl) (by kernel_rfl) rfl ?_) | ((refine pl_yes (i := 12) (oi := { dst := some 46, op := Go.Op.move (Go.Operand.tmp 7), type := 139, pos := "register.go:90", after := #[{ on := 11, ground := Go.Ground.guard }], guard := some (11, false) }) (v := ?_) rfl (by kernel_rfl) (by kernel_rfl) rfl ?_ ?_); rotate_left; focus (intro W hW; (try dsimp only at hW); go_split_ands; go_simp; (try (simp (disch := omega) only [IntWalk.i64_in]; (try go_simp))); (try (split; (next => omega); (try go_simp))); try rfl; done))
        try simp only [Act.put, List.setIfInBounds_toArray, List.set_cons_zero, List.set_cons_succ]
        first | (refine pl_no (i := 13) (oi := { dst := some 47, op := Go.Op.nilCheck (Go.Operand.tmp 46), type := 0, pos := "register.go:90", after := #[{ on := 12, ground := Go.Ground.data }, { on := 11, ground := Go.Ground.guard }], guard := some (11, false) }) rfl (by kernel_rfl) (by kernel_rfl) rfl ?_) | ((refine pl_yes (i := 13) (oi := { dst := some 47, op := Go.Op.nilCheck (Go.Operand.tmp 46), type := 0, pos := "register.go:90", after := #[{ on := 12, ground := Go.Ground.data }, { on := 11, ground := Go.Ground.guard }], guard := some (11, false) }) (v := ?_) rfl (by kernel_rfl) (by kernel_rfl) rfl ?_ ?_); rotate_left; focus (intro W hW; (try dsimp only at hW); go_split_ands; go_simp; (try (simp (disch := omega) only [IntWalk.i64_in]; (try go_simp))); (try (split; (next => omega); (try go_simp))); try rfl; done))
        try simp only [Act.put, List.setIfInBounds_toArray, List.set_cons_zero, List.set_cons_succ]
        first | (refine pl_no (i := 14) (oi := { dst := some 48, op := Go.Op.fieldAddr 88 (Go.Operand.tmp 47) 1, type := 0, pos := "register.go:90", after := #[{ on := 13, ground := Go.Ground.data }, { on := 11, ground := Go.Ground.guard }], guard := some (11, false) }) rfl (by kernel_rfl) (by kernel_rfl) rfl ?_) | ((refine pl_yes (i := 14) (oi := { dst := some 48, op := Go.Op.fieldAddr 88 (Go.Operand.tmp 47) 1, type := 0, pos := "register.go:90", after := #[{ on := 13, ground := Go.Ground.data }, { on := 11, ground := Go.Ground.guard }], guard := some (11, false) }) (v := ?_) rfl (by kernel_rfl) (by kernel_rfl) rfl ?_ ?_); rotate_left; focus (intro W hW; (try dsimp only at hW); go_split_ands; go_simp; (try (simp (disch := omega) only [IntWalk.i64_in]; (try go_simp))); (try (split; (next => omega); (try go_simp))); try rfl; done))
        try simp only [Act.put, List.setIfInBounds_toArray, List.set_cons_zero, List.set_cons_succ]
        first | (refine pl_no (i := 15) (oi := { dst := some 49, op := Go.Op.load 28 (Go.Operand.tmp 48), type := 28, pos := "register.go:90", after := #[{ on := 14, ground := Go.Ground.data }, { on := 11, ground := Go.Ground.guard }], guard := some (11, false) }) rfl (by kernel_rfl) (by kernel_rfl) rfl ?_) | ((refine pl_yes (i := 15) (oi := { dst := some 49, op := Go.Op.load 28 (Go.Operand.tmp 48), type := 28, pos := "register.go:90", after := #[{ on := 14, ground := Go.Ground.data }, { on := 11, ground := Go.Ground.guard }], guard := some (11, false) }) (v := ?_) rfl (by kernel_rfl) (by kernel_rfl) rfl ?_ ?_); rotate_left; focus (intro W hW; (try dsimp only at hW); go_split_ands; go_simp; (try (simp (disch := omega) only [IntWalk.i64_in]; (try go_simp))); (try (split; (next => omega); (try go_simp))); try rfl; done))
        try simp only [Act.put, List.setIfInBounds_toArray, List.set_cons_zero, List.set_cons_succ]
        first | (refine pl_no (i := 16) (oi := { dst := some 50, op := Go.Op.move (Go.Operand.tmp 2), type := 28, pos := "register.go:90", after := #[{ on := 11, ground := Go.Ground.guard }], guard := some (11, false) }) rfl (by kernel_rfl) (by kernel_rfl) rfl ?_) | ((refine pl_yes (i := 16) (oi := { dst := some 50, op := Go.Op.move (Go.Operand.tmp 2), type := 28, pos := "register.go:90", after := #[{ on := 11, ground := Go.Ground.guard }], guard := some (11, false) }) (v := ?_) rfl (by kernel_rfl) (by kernel_rfl) rfl ?_ ?_); rotate_left; focus (intro W hW; (try dsimp only at hW); go_split_ands; go_simp; (try (simp (disch := omega) only [IntWalk.i64_in]; (try go_simp))); (try (split; (next => omega); (try go_simp))); try rfl; done))
        try simp only [Act.put, List.setIfInBounds_toArray, List.set_cons_zero, List.set_cons_succ]
        -- ready: [17]
        refine pl_no (i := 17) (oi := { dst := some 51, op := Go.Op.call { callee := Go.Callee.value (Go.Operand.func 70), args := #[Go.Operand.tmp 49, Go.Operand.tmp 50, Go.Operand.func 71], argTypes := #[28, 28, 142] }, type := 4, pos := "register.go:90", after := #[{ on := 15, ground := Go.Ground.data }, { on := 16, ground := Go.Ground.data }, { on := 11, ground := Go.Ground.chain }, { on := 11, ground := Go.Ground.guard }], guard := some (11, false) }) rfl (by kernel_rfl) (by kernel_rfl) rfl ?_
        try simp only [Act.put, List.setIfInBounds_toArray, List.set_cons_zero, List.set_cons_succ]
        first | (refine pl_no (i := 18) (oi := { dst := some 52, op := Go.Op.unOp Go.UnOp.not 4 (Go.Operand.tmp 51), type := 4, pos := "register.go:90", after := #[{ on := 17, ground := Go.Ground.data }, { on := 11, ground := Go.Ground.guard }], guard := some (11, false) }) rfl (by kernel_rfl) (by kernel_rfl) rfl ?_) | ((refine pl_yes (i := 18) (oi := { dst := some 52, op := Go.Op.unOp Go.UnOp.not 4 (Go.Operand.tmp 51), type := 4, pos := "register.go:90", after := #[{ on := 17, ground := Go.Ground.data }, { on := 11, ground := Go.Ground.guard }], guard := some (11, false) }) (v := ?_) rfl (by kernel_rfl) (by kernel_rfl) rfl ?_ ?_); rotate_left; focus (intro W hW; (try dsimp only at hW); go_split_ands; go_simp; (try (simp (disch := omega) only [IntWalk.i64_in]; (try go_simp))); (try (split; (next => omega); (try go_simp))); try rfl; done))
        try simp only [Act.put, List.setIfInBounds_toArray, List.set_cons_zero, List.set_cons_succ]
        ((refine pl_yes (i := 19) (oi := { dst := some 53, op := Go.Op.pick (Go.Operand.tmp 45) (Go.Operand.const (Go.Value.bool true)) (Go.Operand.tmp 52), type := 4, pos := "register.go:90", after := #[{ on := 11, ground := Go.Ground.data }, { on := 18, ground := Go.Ground.data }], guard := none }) (v := ?_) rfl (by kernel_rfl) (by kernel_rfl) rfl ?_ ?_); rotate_left; focus (intro W hW; (try dsimp only at hW); go_split_ands; go_simp; (try (simp (disch := omega) only [IntWalk.i64_in]; (try go_simp))); (try (split; (next => omega); (try go_simp))); try rfl; done))
        try simp only [Act.put, List.setIfInBounds_toArray, List.set_cons_zero, List.set_cons_succ]
        -- ready: []
        refine pl_done (by kernel_rfl)  ?_
        rintro w5 hc5
        have cw5 := cw4.trans hc5
        go_wp2_with (first | (with_reducible refine stop_append ?_) | (with_reducible refine stop_copy ?_) | (with_reducible refine stop_make ?_) | (with_reducible refine stop_lookup ?_) | (with_reducible refine stop_update ?_) | (with_reducible refine stop_slice ?_) | (with_reducible refine stop_range ?_) | (with_reducible refine stop_next ?_) | (with_reducible refine stop_convert ⟨_, rfl⟩ ?_) | (with_reducible refine stop_convertB ⟨_, _, _, rfl⟩ ?_) | (with_reducible refine stop_eqSlice ⟨_, _, rfl⟩ ?_))
        go_ret
        rw [HF.out]
        exact ⟨rfl, HI.out _ cw5, Hreg.out _ cw5⟩
      · obtain ⟨hlj, -⟩ := Ha2F.out j rfl
        obtain ⟨hli, -⟩ := Ha1F.out i rfl
        have hReg4 := Hreg.out _ cw4
        have hc4 := cw4.cell hc (not_no _)
        obtain ⟨vq1, vs1, vt1, k0, k1, k2, -, -, s1, s2, -⟩ := rg_get hReg4 hc4 j hlj
        obtain ⟨_, _, vt2, -, -, -, m3, -, -, -, s3⟩ := rg_get hReg4 hc4 i hli
        have hrj := right_small (Hi.out.2.2 j hlj).2.1
        have hbi := (Hi.out.2.2 i hli).2.2
        have HF2 := Lib.hid (show R = (if sameC rows[j].1 rows[j].2.1 rows[j].2.2.1 t q s && decide (rows[i].2.2.2.1 = l) then 0 else 140, rows) by rw [HF.out, ← rowA_get rows j hlj, ← rowA_get rows i hli]; rfl)
        have Hsm := Lib.hid (fun W (hW : Chg No w4 W) => tsame_any (Lt B) (Lt B) No No rows[j].1 t vq1 vs1 (.slice Aq q.length cq) (.slice As s.length cs) rows[j].2.1 q rows[j].2.2.1 s W (s1.keepNo hW) (s2.keepNo hW) (Hq.out W (cw4.trans hW)) (Hs.out W (cw4.trans hW))
          (by have := hrj.1; omega) (by have := hrj.2.1; omega) (fun x hx => by have := hrj.2.2 x hx; omega) (by omega) (by omega) (fun x hx => by have := Hh3.out x hx; omega))
        have Heq := Lib.hid (fun W (hW : Chg No w4 W) => eqents_any (Lt B) No vt2 (.slice At0 l.length ct) rows[i].2.2.2.1 l W (s3.keepNo hW) (Ht.out W (cw4.trans hW)) hbi.1 (by have := Hbt.out.1; omega) hbi.2 (fun x hx => by have := Hbt.out.2 x hx; omega))
        obtain ⟨Bq, dq, rfl⟩ := s1.slice
        obtain ⟨Bs, ds, rfl⟩ := s2.slice
        obtain ⟨Bt, dt, rfl⟩ := s3.slice
        unfold cfgV at *
        clear hReg4 hrj hbi s1 s2 s3 hc4
        generalize sameC rows[j].1 rows[j].2.1 rows[j].2.2.1 t q s = b1 at *
        generalize decide (rows[i].2.2.2.1 = l) = b2 at *
        generalize rows[j].1 = t2 at *
        generalize rows[j].2.1.length = n1 at *
        generalize rows[j].2.2.1.length = n2 at *
        generalize rows[i].2.2.2.1.length = n3 at *
        have HS := Lib.hid (show ∀ W, Chg No w4 W → (fun W => (W.cell? ⟨b, 0, none⟩ = some (.int .i64 t) ∧ W.cell? ⟨b, 1, none⟩ = some (.slice Aq q.length cq) ∧ W.cell? ⟨b, 2, none⟩ = some (.slice As s.length cs)) ∧ (W.cell? ⟨g, j * 5, none⟩ = some (.int .i64 t2) ∧ W.cell? ⟨g, j * 5 + 1, none⟩ = some (.slice Bq n1 dq) ∧ W.cell? ⟨g, j * 5 + 2, none⟩ = some (.slice Bs n2 ds)) ∧ W.cell? ⟨g, i * 5 + 3, none⟩ = some (.slice Bt n3 dt) ∧ Chg No w4 W) W from fun W hW => ⟨⟨hW.cell a0 (not_no _), hW.cell a1 (not_no _), hW.cell a2 (not_no _)⟩, ⟨hW.cell k0 (not_no _), hW.cell k1 (not_no _), hW.cell k2 (not_no _)⟩, hW.cell m3 (not_no _), hW⟩)
        simp only [atV, Option.map_some] at *
        go_wp2_with (first | (with_reducible refine stop_append ?_) | (with_reducible refine stop_copy ?_) | (with_reducible refine stop_make ?_) | (with_reducible refine stop_lookup ?_) | (with_reducible refine stop_update ?_) | (with_reducible refine stop_slice ?_) | (with_reducible refine stop_range ?_) | (with_reducible refine stop_next ?_) | (with_reducible refine stop_convert ⟨_, rfl⟩ ?_) | (with_reducible refine stop_convertB ⟨_, _, _, rfl⟩ ?_) | (with_reducible refine stop_eqSlice ⟨_, _, rfl⟩ ?_))
        rcases b1 with _ | _
        · refine pl_start (fun W => (W.cell? ⟨b, 0, none⟩ = some (.int .i64 t) ∧ W.cell? ⟨b, 1, none⟩ = some (.slice Aq q.length cq) ∧ W.cell? ⟨b, 2, none⟩ = some (.slice As s.length cs)) ∧ (W.cell? ⟨g, j * 5, none⟩ = some (.int .i64 t2) ∧ W.cell? ⟨g, j * 5 + 1, none⟩ = some (.slice Bq n1 dq) ∧ W.cell? ⟨g, j * 5 + 2, none⟩ = some (.slice Bs n2 ds)) ∧ W.cell? ⟨g, i * 5 + 3, none⟩ = some (.slice Bt n3 dt) ∧ Chg No w4 W) (by kernel_rfl) (by kernel_rfl) (HS.out _ (Chg.refl No w4).drew) ?_
          ((refine pl_yes (i := 0) (oi := { dst := some 34, op := Go.Op.move (Go.Operand.tmp 7), type := 139, pos := "register.go:90", after := #[], guard := none }) (v := ?_) rfl (by kernel_rfl) (by kernel_rfl) rfl ?_ ?_); rotate_left; focus (intro W hW; (try dsimp only at hW); go_split_ands; go_simp; (try (simp (disch := omega) only [IntWalk.i64_in]; (try go_simp))); (try (split; (next => omega); (try go_simp))); try rfl; done))
          try simp only [Act.put, List.setIfInBounds_toArray, List.set_cons_zero, List.set_cons_succ]
          ((refine pl_yes (i := 1) (oi := { dst := some 35, op := Go.Op.binOp Go.BinOp.eql 139 (Go.Operand.tmp 34) (Go.Operand.const (Go.Value.pointer none)) 139, type := 4, pos := "register.go:90", after := #[{ on := 0, ground := Go.Ground.data }], guard := none }) (v := ?_) rfl (by kernel_rfl) (by kernel_rfl) rfl ?_ ?_); rotate_left; focus (intro W hW; (try dsimp only at hW); go_split_ands; go_simp; (try (simp (disch := omega) only [IntWalk.i64_in]; (try go_simp))); (try (split; (next => omega); (try go_simp))); try rfl; done))
          try simp only [Act.put, List.setIfInBounds_toArray, List.set_cons_zero, List.set_cons_succ]
          ((refine pl_yes (i := 2) (oi := { dst := some 36, op := Go.Op.move (Go.Operand.tmp 35), type := 4, pos := "register.go:90", after := #[{ on := 1, ground := Go.Ground.data }], guard := none }) (v := ?_) rfl (by kernel_rfl) (by kernel_rfl) rfl ?_ ?_); rotate_left; focus (intro W hW; (try dsimp only at hW); go_split_ands; go_simp; (try (simp (disch := omega) only [IntWalk.i64_in]; (try go_simp))); (try (split; (next => omega); (try go_simp))); try rfl; done))
          try simp only [Act.put, List.setIfInBounds_toArray, List.set_cons_zero, List.set_cons_succ]
          first | (refine pl_no (i := 3) (oi := { dst := some 37, op := Go.Op.move (Go.Operand.tmp 8), type := 139, pos := "register.go:90", after := #[{ on := 2, ground := Go.Ground.guard }], guard := some (2, false) }) rfl (by kernel_rfl) (by kernel_rfl) rfl ?_) | ((refine pl_yes (i := 3) (oi := { dst := some 37, op := Go.Op.move (Go.Operand.tmp 8), type := 139, pos := "register.go:90", after := #[{ on := 2, ground := Go.Ground.guard }], guard := some (2, false) }) (v := ?_) rfl (by kernel_rfl) (by kernel_rfl) rfl ?_ ?_); rotate_left; focus (intro W hW; (try dsimp only at hW); go_split_ands; go_simp; (try (simp (disch := omega) only [IntWalk.i64_in]; (try go_simp))); (try (split; (next => omega); (try go_simp))); try rfl; done))
          try simp only [Act.put, List.setIfInBounds_toArray, List.set_cons_zero, List.set_cons_succ]
          first | (refine pl_no (i := 4) (oi := { dst := some 38, op := Go.Op.nilCheck (Go.Operand.tmp 37), type := 0, pos := "register.go:90", after := #[{ on := 3, ground := Go.Ground.data }, { on := 2, ground := Go.Ground.guard }], guard := some (2, false) }) rfl (by kernel_rfl) (by kernel_rfl) rfl ?_) | ((refine pl_yes (i := 4) (oi := { dst := some 38, op := Go.Op.nilCheck (Go.Operand.tmp 37), type := 0, pos := "register.go:90", after := #[{ on := 3, ground := Go.Ground.data }, { on := 2, ground := Go.Ground.guard }], guard := some (2, false) }) (v := ?_) rfl (by kernel_rfl) (by kernel_rfl) rfl ?_ ?_); rotate_left; focus (intro W hW; (try dsimp only at hW); go_split_ands; go_simp; (try (simp (disch := omega) only [IntWalk.i64_in]; (try go_simp))); (try (split; (next => omega); (try go_simp))); try rfl; done))
          try simp only [Act.put, List.setIfInBounds_toArray, List.set_cons_zero, List.set_cons_succ]
          first | (refine pl_no (i := 5) (oi := { dst := some 39, op := Go.Op.fieldAddr 88 (Go.Operand.tmp 38) 0, type := 0, pos := "register.go:90", after := #[{ on := 4, ground := Go.Ground.data }, { on := 2, ground := Go.Ground.guard }], guard := some (2, false) }) rfl (by kernel_rfl) (by kernel_rfl) rfl ?_) | ((refine pl_yes (i := 5) (oi := { dst := some 39, op := Go.Op.fieldAddr 88 (Go.Operand.tmp 38) 0, type := 0, pos := "register.go:90", after := #[{ on := 4, ground := Go.Ground.data }, { on := 2, ground := Go.Ground.guard }], guard := some (2, false) }) (v := ?_) rfl (by kernel_rfl) (by kernel_rfl) rfl ?_ ?_); rotate_left; focus (intro W hW; (try dsimp only at hW); go_split_ands; go_simp; (try (simp (disch := omega) only [IntWalk.i64_in]; (try go_simp))); (try (split; (next => omega); (try go_simp))); try rfl; done))
          try simp only [Act.put, List.setIfInBounds_toArray, List.set_cons_zero, List.set_cons_succ]
          first | (refine pl_no (i := 6) (oi := { dst := some 40, op := Go.Op.load 68 (Go.Operand.tmp 39), type := 68, pos := "register.go:90", after := #[{ on := 5, ground := Go.Ground.data }, { on := 2, ground := Go.Ground.guard }], guard := some (2, false) }) rfl (by kernel_rfl) (by kernel_rfl) rfl ?_) | ((refine pl_yes (i := 6) (oi := { dst := some 40, op := Go.Op.load 68 (Go.Operand.tmp 39), type := 68, pos := "register.go:90", after := #[{ on := 5, ground := Go.Ground.data }, { on := 2, ground := Go.Ground.guard }], guard := some (2, false) }) (v := ?_) rfl (by kernel_rfl) (by kernel_rfl) rfl ?_ ?_); rotate_left; focus (intro W hW; (try dsimp only at hW); go_split_ands; go_simp; (try (simp (disch := omega) only [IntWalk.i64_in]; (try go_simp))); (try (split; (next => omega); (try go_simp))); try rfl; done))
          try simp only [Act.put, List.setIfInBounds_toArray, List.set_cons_zero, List.set_cons_succ]
          first | (refine pl_no (i := 7) (oi := { dst := some 41, op := Go.Op.load 68 (Go.Operand.tmp 4), type := 68, pos := "register.go:90", after := #[{ on := 2, ground := Go.Ground.guard }], guard := some (2, false) }) rfl (by kernel_rfl) (by kernel_rfl) rfl ?_) | ((refine pl_yes (i := 7) (oi := { dst := some 41, op := Go.Op.load 68 (Go.Operand.tmp 4), type := 68, pos := "register.go:90", after := #[{ on := 2, ground := Go.Ground.guard }], guard := some (2, false) }) (v := ?_) rfl (by kernel_rfl) (by kernel_rfl) rfl ?_ ?_); rotate_left; focus (intro W hW; (try dsimp only at hW); go_split_ands; go_simp; (try (simp (disch := omega) only [IntWalk.i64_in]; (try go_simp))); (try (split; (next => omega); (try go_simp))); try rfl; done))
          try simp only [Act.put, List.setIfInBounds_toArray, List.set_cons_zero, List.set_cons_succ]
          -- ready: [8]
          refine pl_call (i := 8) (oi := { dst := some 42, op := Go.Op.call { callee := Go.Callee.value (Go.Operand.func 44), args := #[Go.Operand.tmp 40, Go.Operand.tmp 41], argTypes := #[68, 68] }, type := 4, pos := "register.go:90", after := #[{ on := 6, ground := Go.Ground.data }, { on := 7, ground := Go.Ground.data }, { on := 2, ground := Go.Ground.chain }, { on := 2, ground := Go.Ground.guard }], guard := some (2, false) }) (.bool false) rfl (by kernel_rfl) (by kernel_rfl) rfl (by exact (fun W hW => (Hsm.out W hW.2.2.2).mono fun e w' h => ⟨h.1, HS.out _ (hW.2.2.2.trans h.2)⟩)) (fun W => by kernel_rfl) ?_
          try simp only [Act.put, List.setIfInBounds_toArray, List.set_cons_zero, List.set_cons_succ]
          first | (refine pl_no (i := 9) (oi := { dst := some 43, op := Go.Op.unOp Go.UnOp.not 4 (Go.Operand.tmp 42), type := 4, pos := "register.go:90", after := #[{ on := 8, ground := Go.Ground.data }, { on := 2, ground := Go.Ground.guard }], guard := some (2, false) }) rfl (by kernel_rfl) (by kernel_rfl) rfl ?_) | ((refine pl_yes (i := 9) (oi := { dst := some 43, op := Go.Op.unOp Go.UnOp.not 4 (Go.Operand.tmp 42), type := 4, pos := "register.go:90", after := #[{ on := 8, ground := Go.Ground.data }, { on := 2, ground := Go.Ground.guard }], guard := some (2, false) }) (v := ?_) rfl (by kernel_rfl) (by kernel_rfl) rfl ?_ ?_); rotate_left; focus (intro W hW; (try dsimp only at hW); go_split_ands; go_simp; (try (simp (disch := omega) only [IntWalk.i64_in]; (try go_simp))); (try (split; (next => omega); (try go_simp))); try rfl; done))
          try simp only [Act.put, List.setIfInBounds_toArray, List.set_cons_zero, List.set_cons_succ]
          ((refine pl_yes (i := 10) (oi := { dst := some 44, op := Go.Op.pick (Go.Operand.tmp 36) (Go.Operand.const (Go.Value.bool true)) (Go.Operand.tmp 43), type := 4, pos := "register.go:90", after := #[{ on := 2, ground := Go.Ground.data }, { on := 9, ground := Go.Ground.data }], guard := none }) (v := ?_) rfl (by kernel_rfl) (by kernel_rfl) rfl ?_ ?_); rotate_left; focus (intro W hW; (try dsimp only at hW); go_split_ands; go_simp; (try (simp (disch := omega) only [IntWalk.i64_in]; (try go_simp))); (try (split; (next => omega); (try go_simp))); try rfl; done))
          try simp only [Act.put, List.setIfInBounds_toArray, List.set_cons_zero, List.set_cons_succ]
          ((refine pl_yes (i := 11) (oi := { dst := some 45, op := Go.Op.move (Go.Operand.tmp 44), type := 4, pos := "register.go:90", after := #[{ on := 10, ground := Go.Ground.data }, { on := 8, ground := Go.Ground.chain }], guard := none }) (v := ?_) rfl (by kernel_rfl) (by kernel_rfl) rfl ?_ ?_); rotate_left; focus (intro W hW; (try dsimp only at hW); go_split_ands; go_simp; (try (simp (disch := omega) only [IntWalk.i64_in]; (try go_simp))); (try (split; (next => omega); (try go_simp))); try rfl; done))
          try simp only [Act.put, List.setIfInBounds_toArray, List.set_cons_zero, List.set_cons_succ]
          first | (refine pl_no (i := 12) (oi := { dst := some 46, op := Go.Op.move (Go.Operand.tmp 7), type := 139, pos := "register.go:90", after := #[{ on := 11, ground := Go.Ground.guard }], guard := some (11, false) }) rfl (by kernel_rfl) (by kernel_rfl) rfl ?_) | ((refine pl_yes (i := 12) (oi := { dst := some 46, op := Go.Op.move (Go.Operand.tmp 7), type := 139, pos := "register.go:90", after := #[{ on := 11, ground := Go.Ground.guard }], guard := some (11, false) }) (v := ?_) rfl (by kernel_rfl) (by kernel_rfl) rfl ?_ ?_); rotate_left; focus (intro W hW; (try dsimp only at hW); go_split_ands; go_simp; (try (simp (disch := omega) only [IntWalk.i64_in]; (try go_simp))); (try (split; (next => omega); (try go_simp))); try rfl; done))
          try simp only [Act.put, List.setIfInBounds_toArray, List.set_cons_zero, List.set_cons_succ]
          first | (refine pl_no (i := 13) (oi := { dst := some 47, op := Go.Op.nilCheck (Go.Operand.tmp 46), type := 0, pos := "register.go:90", after := #[{ on := 12, ground := Go.Ground.data }, { on := 11, ground := Go.Ground.guard }], guard := some (11, false) }) rfl (by kernel_rfl) (by kernel_rfl) rfl ?_) | ((refine pl_yes (i := 13) (oi := { dst := some 47, op := Go.Op.nilCheck (Go.Operand.tmp 46), type := 0, pos := "register.go:90", after := #[{ on := 12, ground := Go.Ground.data }, { on := 11, ground := Go.Ground.guard }], guard := some (11, false) }) (v := ?_) rfl (by kernel_rfl) (by kernel_rfl) rfl ?_ ?_); rotate_left; focus (intro W hW; (try dsimp only at hW); go_split_ands; go_simp; (try (simp (disch := omega) only [IntWalk.i64_in]; (try go_simp))); (try (split; (next => omega); (try go_simp))); try rfl; done))
          try simp only [Act.put, List.setIfInBounds_toArray, List.set_cons_zero, List.set_cons_succ]
          first | (refine pl_no (i := 14) (oi := { dst := some 48, op := Go.Op.fieldAddr 88 (Go.Operand.tmp 47) 1, type := 0, pos := "register.go:90", after := #[{ on := 13, ground := Go.Ground.data }, { on := 11, ground := Go.Ground.guard }], guard := some (11, false) }) rfl (by kernel_rfl) (by kernel_rfl) rfl ?_) | ((refine pl_yes (i := 14) (oi := { dst := some 48, op := Go.Op.fieldAddr 88 (Go.Operand.tmp 47) 1, type := 0, pos := "register.go:90", after := #[{ on := 13, ground := Go.Ground.data }, { on := 11, ground := Go.Ground.guard }], guard := some (11, false) }) (v := ?_) rfl (by kernel_rfl) (by kernel_rfl) rfl ?_ ?_); rotate_left; focus (intro W hW; (try dsimp only at hW); go_split_ands; go_simp; (try (simp (disch := omega) only [IntWalk.i64_in]; (try go_simp))); (try (split; (next => omega); (try go_simp))); try rfl; done))
          try simp only [Act.put, List.setIfInBounds_toArray, List.set_cons_zero, List.set_cons_succ]
          first | (refine pl_no (i := 15) (oi := { dst := some 49, op := Go.Op.load 28 (Go.Operand.tmp 48), type := 28, pos := "register.go:90", after := #[{ on := 14, ground := Go.Ground.data }, { on := 11, ground := Go.Ground.guard }], guard := some (11, false) }) rfl (by kernel_rfl) (by kernel_rfl) rfl ?_) | ((refine pl_yes (i := 15) (oi := { dst := some 49, op := Go.Op.load 28 (Go.Operand.tmp 48), type := 28, pos := "register.go:90", after := #[{ on := 14, ground := Go.Ground.data }, { on := 11, ground := Go.Ground.guard }], guard := some (11, false) }) (v := ?_) rfl (by kernel_rfl) (by kernel_rfl) rfl ?_ ?_); rotate_left; focus (intro W hW; (try dsimp only at hW); go_split_ands; go_simp; (try (simp (disch := omega) only [IntWalk.i64_in]; (try go_simp))); (try (split; (next => omega); (try go_simp))); try rfl; done))
          try simp only [Act.put, List.setIfInBounds_toArray, List.set_cons_zero, List.set_cons_succ]
          first | (refine pl_no (i := 16) (oi := { dst := some 50, op := Go.Op.move (Go.Operand.tmp 2), type := 28, pos := "register.go:90", after := #[{ on := 11, ground := Go.Ground.guard }], guard := some (11, false) }) rfl (by kernel_rfl) (by kernel_rfl) rfl ?_) | ((refine pl_yes (i := 16) (oi := { dst := some 50, op := Go.Op.move (Go.Operand.tmp 2), type := 28, pos := "register.go:90", after := #[{ on := 11, ground := Go.Ground.guard }], guard := some (11, false) }) (v := ?_) rfl (by kernel_rfl) (by kernel_rfl) rfl ?_ ?_); rotate_left; focus (intro W hW; (try dsimp only at hW); go_split_ands; go_simp; (try (simp (disch := omega) only [IntWalk.i64_in]; (try go_simp))); (try (split; (next => omega); (try go_simp))); try rfl; done))
          try simp only [Act.put, List.setIfInBounds_toArray, List.set_cons_zero, List.set_cons_succ]
          -- ready: [17]
          refine pl_no (i := 17) (oi := { dst := some 51, op := Go.Op.call { callee := Go.Callee.value (Go.Operand.func 70), args := #[Go.Operand.tmp 49, Go.Operand.tmp 50, Go.Operand.func 71], argTypes := #[28, 28, 142] }, type := 4, pos := "register.go:90", after := #[{ on := 15, ground := Go.Ground.data }, { on := 16, ground := Go.Ground.data }, { on := 11, ground := Go.Ground.chain }, { on := 11, ground := Go.Ground.guard }], guard := some (11, false) }) rfl (by kernel_rfl) (by kernel_rfl) rfl ?_
          try simp only [Act.put, List.setIfInBounds_toArray, List.set_cons_zero, List.set_cons_succ]
          first | (refine pl_no (i := 18) (oi := { dst := some 52, op := Go.Op.unOp Go.UnOp.not 4 (Go.Operand.tmp 51), type := 4, pos := "register.go:90", after := #[{ on := 17, ground := Go.Ground.data }, { on := 11, ground := Go.Ground.guard }], guard := some (11, false) }) rfl (by kernel_rfl) (by kernel_rfl) rfl ?_) | ((refine pl_yes (i := 18) (oi := { dst := some 52, op := Go.Op.unOp Go.UnOp.not 4 (Go.Operand.tmp 51), type := 4, pos := "register.go:90", after := #[{ on := 17, ground := Go.Ground.data }, { on := 11, ground := Go.Ground.guard }], guard := some (11, false) }) (v := ?_) rfl (by kernel_rfl) (by kernel_rfl) rfl ?_ ?_); rotate_left; focus (intro W hW; (try dsimp only at hW); go_split_ands; go_simp; (try (simp (disch := omega) only [IntWalk.i64_in]; (try go_simp))); (try (split; (next => omega); (try go_simp))); try rfl; done))
          try simp only [Act.put, List.setIfInBounds_toArray, List.set_cons_zero, List.set_cons_succ]
          ((refine pl_yes (i := 19) (oi := { dst := some 53, op := Go.Op.pick (Go.Operand.tmp 45) (Go.Operand.const (Go.Value.bool true)) (Go.Operand.tmp 52), type := 4, pos := "register.go:90", after := #[{ on := 11, ground := Go.Ground.data }, { on := 18, ground := Go.Ground.data }], guard := none }) (v := ?_) rfl (by kernel_rfl) (by kernel_rfl) rfl ?_ ?_); rotate_left; focus (intro W hW; (try dsimp only at hW); go_split_ands; go_simp; (try (simp (disch := omega) only [IntWalk.i64_in]; (try go_simp))); (try (split; (next => omega); (try go_simp))); try rfl; done))
          try simp only [Act.put, List.setIfInBounds_toArray, List.set_cons_zero, List.set_cons_succ]
          -- ready: []
          refine pl_done (by kernel_rfl)  ?_
          rintro w5 ⟨-, -, -, hc5⟩
          have cw5 := cw4.trans hc5
          go_wp2_with (first | (with_reducible refine stop_append ?_) | (with_reducible refine stop_copy ?_) | (with_reducible refine stop_make ?_) | (with_reducible refine stop_lookup ?_) | (with_reducible refine stop_update ?_) | (with_reducible refine stop_slice ?_) | (with_reducible refine stop_range ?_) | (with_reducible refine stop_next ?_) | (with_reducible refine stop_convert ⟨_, rfl⟩ ?_) | (with_reducible refine stop_convertB ⟨_, _, _, rfl⟩ ?_) | (with_reducible refine stop_eqSlice ⟨_, _, rfl⟩ ?_))
          go_ret
          rw [HF2.out]
          exact ⟨rfl, HI.out _ cw5, Hreg.out _ cw5⟩
        · rcases b2 with _ | _
          all_goals
            refine pl_start (fun W => (W.cell? ⟨b, 0, none⟩ = some (.int .i64 t) ∧ W.cell? ⟨b, 1, none⟩ = some (.slice Aq q.length cq) ∧ W.cell? ⟨b, 2, none⟩ = some (.slice As s.length cs)) ∧ (W.cell? ⟨g, j * 5, none⟩ = some (.int .i64 t2) ∧ W.cell? ⟨g, j * 5 + 1, none⟩ = some (.slice Bq n1 dq) ∧ W.cell? ⟨g, j * 5 + 2, none⟩ = some (.slice Bs n2 ds)) ∧ W.cell? ⟨g, i * 5 + 3, none⟩ = some (.slice Bt n3 dt) ∧ Chg No w4 W) (by kernel_rfl) (by kernel_rfl) (HS.out _ (Chg.refl No w4).drew) ?_
            ((refine pl_yes (i := 0) (oi := { dst := some 34, op := Go.Op.move (Go.Operand.tmp 7), type := 139, pos := "register.go:90", after := #[], guard := none }) (v := ?_) rfl (by kernel_rfl) (by kernel_rfl) rfl ?_ ?_); rotate_left; focus (intro W hW; (try dsimp only at hW); go_split_ands; go_simp; (try (simp (disch := omega) only [IntWalk.i64_in]; (try go_simp))); (try (split; (next => omega); (try go_simp))); try rfl; done))
            try simp only [Act.put, List.setIfInBounds_toArray, List.set_cons_zero, List.set_cons_succ]
            ((refine pl_yes (i := 1) (oi := { dst := some 35, op := Go.Op.binOp Go.BinOp.eql 139 (Go.Operand.tmp 34) (Go.Operand.const (Go.Value.pointer none)) 139, type := 4, pos := "register.go:90", after := #[{ on := 0, ground := Go.Ground.data }], guard := none }) (v := ?_) rfl (by kernel_rfl) (by kernel_rfl) rfl ?_ ?_); rotate_left; focus (intro W hW; (try dsimp only at hW); go_split_ands; go_simp; (try (simp (disch := omega) only [IntWalk.i64_in]; (try go_simp))); (try (split; (next => omega); (try go_simp))); try rfl; done))
            try simp only [Act.put, List.setIfInBounds_toArray, List.set_cons_zero, List.set_cons_succ]
            ((refine pl_yes (i := 2) (oi := { dst := some 36, op := Go.Op.move (Go.Operand.tmp 35), type := 4, pos := "register.go:90", after := #[{ on := 1, ground := Go.Ground.data }], guard := none }) (v := ?_) rfl (by kernel_rfl) (by kernel_rfl) rfl ?_ ?_); rotate_left; focus (intro W hW; (try dsimp only at hW); go_split_ands; go_simp; (try (simp (disch := omega) only [IntWalk.i64_in]; (try go_simp))); (try (split; (next => omega); (try go_simp))); try rfl; done))
            try simp only [Act.put, List.setIfInBounds_toArray, List.set_cons_zero, List.set_cons_succ]
            first | (refine pl_no (i := 3) (oi := { dst := some 37, op := Go.Op.move (Go.Operand.tmp 8), type := 139, pos := "register.go:90", after := #[{ on := 2, ground := Go.Ground.guard }], guard := some (2, false) }) rfl (by kernel_rfl) (by kernel_rfl) rfl ?_) | ((refine pl_yes (i := 3) (oi := { dst := some 37, op := Go.Op.move (Go.Operand.tmp 8), type := 139, pos := "register.go:90", after := #[{ on := 2, ground := Go.Ground.guard }], guard := some (2, false) }) (v := ?_) rfl (by kernel_rfl) (by kernel_rfl) rfl ?_ ?_); rotate_left; focus (intro W hW; (try dsimp only at hW); go_split_ands; go_simp; (try (simp (disch := omega) only [IntWalk.i64_in]; (try go_simp))); (try (split; (next => omega); (try go_simp))); try rfl; done))
            try simp only [Act.put, List.setIfInBounds_toArray, List.set_cons_zero, List.set_cons_succ]
            first | (refine pl_no (i := 4) (oi := { dst := some 38, op := Go.Op.nilCheck (Go.Operand.tmp 37), type := 0, pos := "register.go:90", after := #[{ on := 3, ground := Go.Ground.data }, { on := 2, ground := Go.Ground.guard }], guard := some (2, false) }) rfl (by kernel_rfl) (by kernel_rfl) rfl ?_) | ((refine pl_yes (i := 4) (oi := { dst := some 38, op := Go.Op.nilCheck (Go.Operand.tmp 37), type := 0, pos := "register.go:90", after := #[{ on := 3, ground := Go.Ground.data }, { on := 2, ground := Go.Ground.guard }], guard := some (2, false) }) (v := ?_) rfl (by kernel_rfl) (by kernel_rfl) rfl ?_ ?_); rotate_left; focus (intro W hW; (try dsimp only at hW); go_split_ands; go_simp; (try (simp (disch := omega) only [IntWalk.i64_in]; (try go_simp))); (try (split; (next => omega); (try go_simp))); try rfl; done))
            try simp only [Act.put, List.setIfInBounds_toArray, List.set_cons_zero, List.set_cons_succ]
            first | (refine pl_no (i := 5) (oi := { dst := some 39, op := Go.Op.fieldAddr 88 (Go.Operand.tmp 38) 0, type := 0, pos := "register.go:90", after := #[{ on := 4, ground := Go.Ground.data }, { on := 2, ground := Go.Ground.guard }], guard := some (2, false) }) rfl (by kernel_rfl) (by kernel_rfl) rfl ?_) | ((refine pl_yes (i := 5) (oi := { dst := some 39, op := Go.Op.fieldAddr 88 (Go.Operand.tmp 38) 0, type := 0, pos := "register.go:90", after := #[{ on := 4, ground := Go.Ground.data }, { on := 2, ground := Go.Ground.guard }], guard := some (2, false) }) (v := ?_) rfl (by kernel_rfl) (by kernel_rfl) rfl ?_ ?_); rotate_left; focus (intro W hW; (try dsimp only at hW); go_split_ands; go_simp; (try (simp (disch := omega) only [IntWalk.i64_in]; (try go_simp))); (try (split; (next => omega); (try go_simp))); try rfl; done))
            try simp only [Act.put, List.setIfInBounds_toArray, List.set_cons_zero, List.set_cons_succ]
            first | (refine pl_no (i := 6) (oi := { dst := some 40, op := Go.Op.load 68 (Go.Operand.tmp 39), type := 68, pos := "register.go:90", after := #[{ on := 5, ground := Go.Ground.data }, { on := 2, ground := Go.Ground.guard }], guard := some (2, false) }) rfl (by kernel_rfl) (by kernel_rfl) rfl ?_) | ((refine pl_yes (i := 6) (oi := { dst := some 40, op := Go.Op.load 68 (Go.Operand.tmp 39), type := 68, pos := "register.go:90", after := #[{ on := 5, ground := Go.Ground.data }, { on := 2, ground := Go.Ground.guard }], guard := some (2, false) }) (v := ?_) rfl (by kernel_rfl) (by kernel_rfl) rfl ?_ ?_); rotate_left; focus (intro W hW; (try dsimp only at hW); go_split_ands; go_simp; (try (simp (disch := omega) only [IntWalk.i64_in]; (try go_simp))); (try (split; (next => omega); (try go_simp))); try rfl; done))
            try simp only [Act.put, List.setIfInBounds_toArray, List.set_cons_zero, List.set_cons_succ]
            first | (refine pl_no (i := 7) (oi := { dst := some 41, op := Go.Op.load 68 (Go.Operand.tmp 4), type := 68, pos := "register.go:90", after := #[{ on := 2, ground := Go.Ground.guard }], guard := some (2, false) }) rfl (by kernel_rfl) (by kernel_rfl) rfl ?_) | ((refine pl_yes (i := 7) (oi := { dst := some 41, op := Go.Op.load 68 (Go.Operand.tmp 4), type := 68, pos := "register.go:90", after := #[{ on := 2, ground := Go.Ground.guard }], guard := some (2, false) }) (v := ?_) rfl (by kernel_rfl) (by kernel_rfl) rfl ?_ ?_); rotate_left; focus (intro W hW; (try dsimp only at hW); go_split_ands; go_simp; (try (simp (disch := omega) only [IntWalk.i64_in]; (try go_simp))); (try (split; (next => omega); (try go_simp))); try rfl; done))
            try simp only [Act.put, List.setIfInBounds_toArray, List.set_cons_zero, List.set_cons_succ]
            -- ready: [8]
            refine pl_call (i := 8) (oi := { dst := some 42, op := Go.Op.call { callee := Go.Callee.value (Go.Operand.func 44), args := #[Go.Operand.tmp 40, Go.Operand.tmp 41], argTypes := #[68, 68] }, type := 4, pos := "register.go:90", after := #[{ on := 6, ground := Go.Ground.data }, { on := 7, ground := Go.Ground.data }, { on := 2, ground := Go.Ground.chain }, { on := 2, ground := Go.Ground.guard }], guard := some (2, false) }) (.bool true) rfl (by kernel_rfl) (by kernel_rfl) rfl (by exact (fun W hW => (Hsm.out W hW.2.2.2).mono fun e w' h => ⟨h.1, HS.out _ (hW.2.2.2.trans h.2)⟩)) (fun W => by kernel_rfl) ?_
            try simp only [Act.put, List.setIfInBounds_toArray, List.set_cons_zero, List.set_cons_succ]
            first | (refine pl_no (i := 9) (oi := { dst := some 43, op := Go.Op.unOp Go.UnOp.not 4 (Go.Operand.tmp 42), type := 4, pos := "register.go:90", after := #[{ on := 8, ground := Go.Ground.data }, { on := 2, ground := Go.Ground.guard }], guard := some (2, false) }) rfl (by kernel_rfl) (by kernel_rfl) rfl ?_) | ((refine pl_yes (i := 9) (oi := { dst := some 43, op := Go.Op.unOp Go.UnOp.not 4 (Go.Operand.tmp 42), type := 4, pos := "register.go:90", after := #[{ on := 8, ground := Go.Ground.data }, { on := 2, ground := Go.Ground.guard }], guard := some (2, false) }) (v := ?_) rfl (by kernel_rfl) (by kernel_rfl) rfl ?_ ?_); rotate_left; focus (intro W hW; (try dsimp only at hW); go_split_ands; go_simp; (try (simp (disch := omega) only [IntWalk.i64_in]; (try go_simp))); (try (split; (next => omega); (try go_simp))); try rfl; done))
            try simp only [Act.put, List.setIfInBounds_toArray, List.set_cons_zero, List.set_cons_succ]
            ((refine pl_yes (i := 10) (oi := { dst := some 44, op := Go.Op.pick (Go.Operand.tmp 36) (Go.Operand.const (Go.Value.bool true)) (Go.Operand.tmp 43), type := 4, pos := "register.go:90", after := #[{ on := 2, ground := Go.Ground.data }, { on := 9, ground := Go.Ground.data }], guard := none }) (v := ?_) rfl (by kernel_rfl) (by kernel_rfl) rfl ?_ ?_); rotate_left; focus (intro W hW; (try dsimp only at hW); go_split_ands; go_simp; (try (simp (disch := omega) only [IntWalk.i64_in]; (try go_simp))); (try (split; (next => omega); (try go_simp))); try rfl; done))
            try simp only [Act.put, List.setIfInBounds_toArray, List.set_cons_zero, List.set_cons_succ]
            ((refine pl_yes (i := 11) (oi := { dst := some 45, op := Go.Op.move (Go.Operand.tmp 44), type := 4, pos := "register.go:90", after := #[{ on := 10, ground := Go.Ground.data }, { on := 8, ground := Go.Ground.chain }], guard := none }) (v := ?_) rfl (by kernel_rfl) (by kernel_rfl) rfl ?_ ?_); rotate_left; focus (intro W hW; (try dsimp only at hW); go_split_ands; go_simp; (try (simp (disch := omega) only [IntWalk.i64_in]; (try go_simp))); (try (split; (next => omega); (try go_simp))); try rfl; done))
            try simp only [Act.put, List.setIfInBounds_toArray, List.set_cons_zero, List.set_cons_succ]
            first | (refine pl_no (i := 12) (oi := { dst := some 46, op := Go.Op.move (Go.Operand.tmp 7), type := 139, pos := "register.go:90", after := #[{ on := 11, ground := Go.Ground.guard }], guard := some (11, false) }) rfl (by kernel_rfl) (by kernel_rfl) rfl ?_) | ((refine pl_yes (i := 12) (oi := { dst := some 46, op := Go.Op.move (Go.Operand.tmp 7), type := 139, pos := "register.go:90", after := #[{ on := 11, ground := Go.Ground.guard }], guard := some (11, false) }) (v := ?_) rfl (by kernel_rfl) (by kernel_rfl) rfl ?_ ?_); rotate_left; focus (intro W hW; (try dsimp only at hW); go_split_ands; go_simp; (try (simp (disch := omega) only [IntWalk.i64_in]; (try go_simp))); (try (split; (next => omega); (try go_simp))); try rfl; done))
            try simp only [Act.put, List.setIfInBounds_toArray, List.set_cons_zero, List.set_cons_succ]
            first | (refine pl_no (i := 13) (oi := { dst := some 47, op := Go.Op.nilCheck (Go.Operand.tmp 46), type := 0, pos := "register.go:90", after := #[{ on := 12, ground := Go.Ground.data }, { on := 11, ground := Go.Ground.guard }], guard := some (11, false) }) rfl (by kernel_rfl) (by kernel_rfl) rfl ?_) | ((refine pl_yes (i := 13) (oi := { dst := some 47, op := Go.Op.nilCheck (Go.Operand.tmp 46), type := 0, pos := "register.go:90", after := #[{ on := 12, ground := Go.Ground.data }, { on := 11, ground := Go.Ground.guard }], guard := some (11, false) }) (v := ?_) rfl (by kernel_rfl) (by kernel_rfl) rfl ?_ ?_); rotate_left; focus (intro W hW; (try dsimp only at hW); go_split_ands; go_simp; (try (simp (disch := omega) only [IntWalk.i64_in]; (try go_simp))); (try (split; (next => omega); (try go_simp))); try rfl; done))
            try simp only [Act.put, List.setIfInBounds_toArray, List.set_cons_zero, List.set_cons_succ]
            first | (refine pl_no (i := 14) (oi := { dst := some 48, op := Go.Op.fieldAddr 88 (Go.Operand.tmp 47) 1, type := 0, pos := "register.go:90", after := #[{ on := 13, ground := Go.Ground.data }, { on := 11, ground := Go.Ground.guard }], guard := some (11, false) }) rfl (by kernel_rfl) (by kernel_rfl) rfl ?_) | ((refine pl_yes (i := 14) (oi := { dst := some 48, op := Go.Op.fieldAddr 88 (Go.Operand.tmp 47) 1, type := 0, pos := "register.go:90", after := #[{ on := 13, ground := Go.Ground.data }, { on := 11, ground := Go.Ground.guard }], guard := some (11, false) }) (v := ?_) rfl (by kernel_rfl) (by kernel_rfl) rfl ?_ ?_); rotate_left; focus (intro W hW; (try dsimp only at hW); go_split_ands; go_simp; (try (simp (disch := omega) only [IntWalk.i64_in]; (try go_simp))); (try (split; (next => omega); (try go_simp))); try rfl; done))
            try simp only [Act.put, List.setIfInBounds_toArray, List.set_cons_zero, List.set_cons_succ]
            first | (refine pl_no (i := 15) (oi := { dst := some 49, op := Go.Op.load 28 (Go.Operand.tmp 48), type := 28, pos := "register.go:90", after := #[{ on := 14, ground := Go.Ground.data }, { on := 11, ground := Go.Ground.guard }], guard := some (11, false) }) rfl (by kernel_rfl) (by kernel_rfl) rfl ?_) | ((refine pl_yes (i := 15) (oi := { dst := some 49, op := Go.Op.load 28 (Go.Operand.tmp 48), type := 28, pos := "register.go:90", after := #[{ on := 14, ground := Go.Ground.data }, { on := 11, ground := Go.Ground.guard }], guard := some (11, false) }) (v := ?_) rfl (by kernel_rfl) (by kernel_rfl) rfl ?_ ?_); rotate_left; focus (intro W hW; (try dsimp only at hW); go_split_ands; go_simp; (try (simp (disch := omega) only [IntWalk.i64_in]; (try go_simp))); (try (split; (next => omega); (try go_simp))); try rfl; done))
            try simp only [Act.put, List.setIfInBounds_toArray, List.set_cons_zero, List.set_cons_succ]
            first | (refine pl_no (i := 16) (oi := { dst := some 50, op := Go.Op.move (Go.Operand.tmp 2), type := 28, pos := "register.go:90", after := #[{ on := 11, ground := Go.Ground.guard }], guard := some (11, false) }) rfl (by kernel_rfl) (by kernel_rfl) rfl ?_) | ((refine pl_yes (i := 16) (oi := { dst := some 50, op := Go.Op.move (Go.Operand.tmp 2), type := 28, pos := "register.go:90", after := #[{ on := 11, ground := Go.Ground.guard }], guard := some (11, false) }) (v := ?_) rfl (by kernel_rfl) (by kernel_rfl) rfl ?_ ?_); rotate_left; focus (intro W hW; (try dsimp only at hW); go_split_ands; go_simp; (try (simp (disch := omega) only [IntWalk.i64_in]; (try go_simp))); (try (split; (next => omega); (try go_simp))); try rfl; done))
            try simp only [Act.put, List.setIfInBounds_toArray, List.set_cons_zero, List.set_cons_succ]
            -- ready: [17]
            refine pl_call (i := 17) (oi := { dst := some 51, op := Go.Op.call { callee := Go.Callee.value (Go.Operand.func 70), args := #[Go.Operand.tmp 49, Go.Operand.tmp 50, Go.Operand.func 71], argTypes := #[28, 28, 142] }, type := 4, pos := "register.go:90", after := #[{ on := 15, ground := Go.Ground.data }, { on := 16, ground := Go.Ground.data }, { on := 11, ground := Go.Ground.chain }, { on := 11, ground := Go.Ground.guard }], guard := some (11, false) }) (.bool _) rfl (by kernel_rfl) (by kernel_rfl) rfl (by exact (fun W hW => (Heq.out W hW.2.2.2).mono fun e w' h => ⟨h.1, HS.out _ (hW.2.2.2.trans h.2)⟩)) (fun W => by kernel_rfl) ?_
            try simp only [Act.put, List.setIfInBounds_toArray, List.set_cons_zero, List.set_cons_succ]
            first | (refine pl_no (i := 18) (oi := { dst := some 52, op := Go.Op.unOp Go.UnOp.not 4 (Go.Operand.tmp 51), type := 4, pos := "register.go:90", after := #[{ on := 17, ground := Go.Ground.data }, { on := 11, ground := Go.Ground.guard }], guard := some (11, false) }) rfl (by kernel_rfl) (by kernel_rfl) rfl ?_) | ((refine pl_yes (i := 18) (oi := { dst := some 52, op := Go.Op.unOp Go.UnOp.not 4 (Go.Operand.tmp 51), type := 4, pos := "register.go:90", after := #[{ on := 17, ground := Go.Ground.data }, { on := 11, ground := Go.Ground.guard }], guard := some (11, false) }) (v := ?_) rfl (by kernel_rfl) (by kernel_rfl) rfl ?_ ?_); rotate_left; focus (intro W hW; (try dsimp only at hW); go_split_ands; go_simp; (try (simp (disch := omega) only [IntWalk.i64_in]; (try go_simp))); (try (split; (next => omega); (try go_simp))); try rfl; done))
            try simp only [Act.put, List.setIfInBounds_toArray, List.set_cons_zero, List.set_cons_succ]
            ((refine pl_yes (i := 19) (oi := { dst := some 53, op := Go.Op.pick (Go.Operand.tmp 45) (Go.Operand.const (Go.Value.bool true)) (Go.Operand.tmp 52), type := 4, pos := "register.go:90", after := #[{ on := 11, ground := Go.Ground.data }, { on := 18, ground := Go.Ground.data }], guard := none }) (v := ?_) rfl (by kernel_rfl) (by kernel_rfl) rfl ?_ ?_); rotate_left; focus (intro W hW; (try dsimp only at hW); go_split_ands; go_simp; (try (simp (disch := omega) only [IntWalk.i64_in]; (try go_simp))); (try (split; (next => omega); (try go_simp))); try rfl; done))
            try simp only [Act.put, List.setIfInBounds_toArray, List.set_cons_zero, List.set_cons_succ]
            -- ready: []
            refine pl_done (by kernel_rfl)  ?_
            rintro w5 ⟨-, -, -, hc5⟩
            have cw5 := cw4.trans hc5
            go_wp2_with (first | (with_reducible refine stop_append ?_) | (with_reducible refine stop_copy ?_) | (with_reducible refine stop_make ?_) | (with_reducible refine stop_lookup ?_) | (with_reducible refine stop_update ?_) | (with_reducible refine stop_slice ?_) | (with_reducible refine stop_range ?_) | (with_reducible refine stop_next ?_) | (with_reducible refine stop_convert ⟨_, rfl⟩ ?_) | (with_reducible refine stop_convertB ⟨_, _, _, rfl⟩ ?_) | (with_reducible refine stop_eqSlice ⟨_, _, rfl⟩ ?_))
            go_ret
            rw [HF2.out]
            exact ⟨rfl, HI.out _ cw5, Hreg.out _ cw5⟩
end Go.Proofs.Ytbjpoamnglfjeaa

/- Texts RdcK, RegW. -/
import Derived.Test.YtbjpoamnglfjeaaMg9
/- Walks of the document's chapter 14: Install. -/
set_option linter.unusedVariables false
set_option linter.unusedSimpArgs false
namespace Go.Proofs.Ytbjpoamnglfjeaa
open Go.RowKit Cb

theorem set2 {w : World} {q : Nat} {a b : Value} {T : TypeId} {fz : Nat × Nat} (h : w.heap[q]? = some (.cells #[a, b] T fz)) (x y : Value) :
    ((w.setCell ⟨q, 0, none⟩ x).setCell ⟨q, 1, none⟩ y).heap[q]? = some (.cells #[x, y] T fz) ∧ Chg (At q) w ((w.setCell ⟨q, 0, none⟩ x).setCell ⟨q, 1, none⟩ y) :=
  ⟨obj_set (obj_set h rfl) rfl, (chg_set x).trans (chg_set y)⟩
theorem cfgs_new (rows : List Rw) (t : Int) (q : List Int) (s : List (List Int)) (l : List Ent) : cfgsR (newR rows t q s l) = cfgsR rows ++ [(t, q, s)] := by
  have hn := newR_len rows t q s l
  apply List.ext_getElem
  · simp [cfgsR_len, hn]
  · intro i h1 h2
    rw [cfgsR_len] at h1
    rw [cfgsR_get _ i h1, newR_get]
    by_cases hi : i = rows.length
    · subst hi
      rw [if_pos rfl, List.getElem_append_right (by rw [cfgsR_len]; omega)]
      simp [cfgsR_len]
    · have hlt : i < rows.length := by omega
      rw [if_neg hi, List.getElem_append_left (by rw [cfgsR_len]; exact hlt), cfgsR_get rows i hlt, rowA_get rows i hlt]
      split <;> rfl
theorem tails_new (rows : List Rw) (t : Int) (q : List Int) (s : List (List Int)) (l : List Ent) (h0 : 0 < rows.length) : tailsR (newR rows t q s l) = tailsR rows ++ [l] := by
  have hn := newR_len rows t q s l
  apply List.ext_getElem
  · simp [tailsR_len, hn]; omega
  · intro i h1 h2
    rw [tailsR_len] at h1
    rw [tailsR_get _ i h1, newR_get]
    have hlt : i < rows.length := by omega
    rw [if_neg (by omega)]
    by_cases hi : i = rows.length - 1
    · rw [if_pos hi, List.getElem_append_right (by rw [tailsR_len]; omega)]
      simp
    · rw [if_neg hi, List.getElem_append_left (by rw [tailsR_len]; omega), tailsR_get rows i (by omega), rowA_get rows i hlt]
theorem info_cfg : Info Try.prog 63 (.agg #[.int .i64 0, .slice none 0 0, .slice none 0 0]) 3 56 := by unfold Info; kernel_rfl
theorem info_ents : Info Try.prog 22 (.slice none 0 0) 1 24 := by unfold Info; kernel_rfl
theorem cfg_mk {F : Nat → Prop} {w : World} (t : Int) {vq vs : Value} {q : List Int} {s : List (List Int)} (hq : Sl F w vq q) (hs : Sl F w vs s) : Rep.cs F w ((t, q, s) : Cfg) [.int .i64 t, vq, vs] :=
  ⟨[_], _, rfl, rfl, [_], [_], rfl, ⟨_, rfl, hq⟩, ⟨_, rfl, hs⟩⟩
/-- What the document's install leaves. -/
def DInst (F : Nat → Prop) (w : World) (r : Int × List Rw) (e : Ending) (w' : World) : Prop :=
  ∃ vL vT, e = .returned (.tuple #[regV vL vT, .int .i64 r.1]) ∧ Chg No w w' ∧ RefS F w' vL vT r.2
theorem atI_some (i : Nat) : atI (some i) = i := rfl
theorem atI_none : atI none = -1 := rfl
theorem fits_chain {nn : Option Nat} {l : List Ent} (h : ¬ (chainF l 0 []).1 = l.length) : fitsB nn l = false := by
  unfold fitsB; rw [decide_eq_false h, Bool.false_and]
theorem installF_unfit {rows : List Rw} {t : Int} {q : List Int} {s : List (List Int)} {l : List Ent} (h : fitsB (nsF rows (t - 1)) l = false) : installF rows t q s l = (1, rows) := by
  rw [installF, h, Bool.and_false]; rfl
theorem dret {F : Nat → Prop} {w wX : World} {b : Nat} {vL vT : Value} {rows : List Rw} {code : Int} {R : Int × List Rw} (hR : R = (code, rows)) (hc : Chg No w wX) (hb : w.heap.size ≤ b) (Hr : ∀ W, Chg No w W → RefS F W vL vT rows) (x y : Value) :
    DInst F w R (.returned (.tuple #[.agg #[vL, vT], .int .i64 code])) ((wX.setCell ⟨b, 0, none⟩ x).setCell ⟨b, 1, none⟩ y) := by
  subst hR
  have h : Chg No w ((wX.setCell ⟨b, 0, none⟩ x).setCell ⟨b, 1, none⟩ y) := (hc.setCell (p := ⟨b, 0, none⟩) (.inr hb) _).setCell (p := ⟨b, 1, none⟩) (.inr hb) _
  exact ⟨vL, vT, rfl, h, Hr _ h⟩
set_option maxRecDepth 100000 in
set_option maxHeartbeats 8000000 in
theorem dinstall_any (F : Nat → Prop) (vL vT vq vs vt : Value) (rows : List Rw) (t : Int) (q : List Int) (s : List (List Int)) (l : List Ent) (w : World) (hr : RefS F w vL vT rows) (hri : RegI rows) (hF : ∀ k, F k → k < w.heap.size)
    (hq : Sl F w vq q) (hs : Sl F w vs s) (ht : Sl F w vt l) (hc : CfgI q s) (hl : TailI l) :
    Calls Try.prog 40 #[regV vL vT, cfgV t vq vs, vt] w (DInst F w (installF rows t q s l)) := by
  have hi := hri.1
  have hi0 := hi.1
  have Hfind := Lib.hid (fun x W (hW : Chg No w W) => dfind_any vL vT rows x W (hr.no.keepNo hW) hi)
  have Hright := Lib.hid (fun W (hW : Chg No w W) => cright_any F F t vq vs q s W (hq.keepNo hW) (hs.keepNo hW) hc.1 (by have := hc.2.1; omega) hc.2.2)
  have Hchain := Lib.hid (fun W (hW : Chg No w W) => dchain_any F vt l W (ht.keepNo hW) hl.1 hl.2)
  have HrF := Lib.hid (fun W (hW : Chg No w W) => hr.keepNo hW)
  obtain ⟨AL, cL, rfl⟩ := hr.l.slice
  obtain ⟨AT, cT, rfl⟩ := hr.t.slice
  obtain ⟨Aq, cq, rfl⟩ := hq.slice
  obtain ⟨As, cs, rfl⟩ := hs.slice
  obtain ⟨At0, ct, rfl⟩ := ht.slice
  have Hq := Lib.hid (fun W (hW : Chg No w W) => hq.keepNo hW)
  have Hs := Lib.hid (fun W (hW : Chg No w W) => hs.keepNo hW)
  have Ht := Lib.hid (fun W (hW : Chg No w W) => ht.keepNo hW)
  have Hc := Lib.hid hc
  have Hl := Lib.hid hl
  have Hri := Lib.hid hri
  have HF := Lib.hid hF
  obtain ⟨nT, hnT⟩ : ∃ n, n = (tailsR rows).length := ⟨_, rfl⟩
  obtain ⟨nL, hnL⟩ : ∃ n, n = (cfgsR rows).length := ⟨_, rfl⟩
  rw [← hnL, ← hnT] at Hfind HrF
  rw [← hnL, ← hnT]
  have HnL := Lib.hid (hnL.trans (cfgsR_len rows))
  have HnT := Lib.hid (hnT.trans (tailsR_len rows))
  have h64 := hi.2.1
  clear hr hri hi hq hs ht hF hnT hnL hl
  unfold regV cfgV at *
  have hcA := (Chg.refl No w).alloc (.cells #[.slice AL nL cL, .slice AT nT cT] 82)
  have hcB := (Chg.refl No (w.alloc (.cells #[.slice AL nL cL, .slice AT nT cT] 82))).alloc (.cells #[.int .i64 t, .slice Aq q.length cq, .slice As s.length cs] 63)
  have hcC := (Chg.refl No ((w.alloc (.cells #[.slice AL nL cL, .slice AT nT cT] 82)).alloc (.cells #[.int .i64 t, .slice Aq q.length cq, .slice As s.length cs] 63))).alloc (.cells #[.slice none 0 0, .slice none 0 0] 82)
  have o3 := hcC.obj (hcB.obj (alloc_obj w (.cells #[.slice AL nL cL, .slice AT nT cT] 82)) (not_no _)) (not_no _)
  have o4 := hcC.obj (alloc_obj (w.alloc (.cells #[.slice AL nL cL, .slice AT nT cT] 82)) (.cells #[.int .i64 t, .slice Aq q.length cq, .slice As s.length cs] 63)) (not_no _)
  have o6 := alloc_obj ((w.alloc (.cells #[.slice AL nL cL, .slice AT nT cT] 82)).alloc (.cells #[.int .i64 t, .slice Aq q.length cq, .slice As s.length cs] 63)) (.cells #[.slice none 0 0, .slice none 0 0] 82)
  have hzA : (w.alloc (.cells #[.slice AL nL cL, .slice AT nT cT] 82)).heap.size = w.heap.size + 1 := by simp
  have hzB : ((w.alloc (.cells #[.slice AL nL cL, .slice AT nT cT] 82)).alloc (.cells #[.int .i64 t, .slice Aq q.length cq, .slice As s.length cs] 63)).heap.size = w.heap.size + 1 + 1 := by simp
  rw [hzA] at o4
  rw [hzB] at o6
  have hc0 := (hcA.trans hcB).trans hcC
  have c0 := cell_obj (i := 0) o4 rfl
  clear hcA hcB hcC hzA hzB
  obtain ⟨t1, ht1⟩ : ∃ x, x = IntKind.i64.wrap (t - 1) := ⟨_, rfl⟩
  have hwt : IntKind.i64.wrap (t - 1) = t1 := ht1.symm
  have Hw1 := Lib.hid ht1
  clear ht1
  have HR := Lib.hid (show ∃ R, R = installF rows t q s l from ⟨_, rfl⟩)
  obtain ⟨R, hR⟩ := HR.out
  rw [← hR]
  have HR2 := Lib.hid hR
  clear hR HR
  have Ha1 := Lib.hid (Hfind.out t1)
  have Ha2 := Lib.hid (Hfind.out t)
  obtain ⟨ao, hao⟩ : ∃ o, o = atR rows t1 := ⟨_, rfl⟩
  obtain ⟨oo, hoo⟩ : ∃ o, o = atR rows t := ⟨_, rfl⟩
  rw [← hao] at Ha1
  rw [← hoo] at Ha2
  have Hao := Lib.hid hao
  have Hoo := Lib.hid hoo
  clear hao hoo Hfind
  obtain ⟨rb, hrb⟩ : ∃ b, b = rightC t q s := ⟨_, rfl⟩
  rw [← hrb] at Hright
  have Hrb := Lib.hid hrb
  clear hrb
  go_enter Try.func40, Try.ntmps40
  go_wp2_with (with_reducible first | refine stop_append ?_ | refine stop_copy ?_ | refine stop_make ?_ | refine stop_lookup ?_ | refine stop_update ?_ | refine stop_slice ?_ | refine stop_range ?_ | refine stop_next ?_ | refine stop_convert ⟨_, rfl⟩ ?_ | refine stop_convertB ⟨_, _, _, rfl⟩ ?_ | refine stop_eqSlice ⟨_, _, rfl⟩ ?_)
  generalize ((w.alloc (.cells #[.slice AL nL cL, .slice AT nT cT] 82)).alloc (.cells #[.int .i64 t, .slice Aq q.length cq, .slice As s.length cs] 63)).alloc (.cells #[.slice none 0 0, .slice none 0 0] 82) = w0 at *
  obtain ⟨b3, hb3⟩ : ∃ b, b = w.heap.size := ⟨_, rfl⟩
  obtain ⟨b4, hb4⟩ : ∃ b, b = w.heap.size + 1 := ⟨_, rfl⟩
  obtain ⟨b6, hb6e⟩ : ∃ b, b = w.heap.size + 1 + 1 := ⟨_, rfl⟩
  rw [← hb6e, ← hb4, ← hb3]
  rw [← hb3] at o3
  rw [← hb4] at o4 c0
  rw [← hb6e] at o6
  have hb6 : w.heap.size ≤ b6 := by omega
  have hb36 : b3 ≠ b6 := by omega
  have hb46 : b4 ≠ b6 := by omega
  have hb3w : w.heap.size ≤ b3 := by omega
  clear hb3 hb4 hb6e
  refine (Ha1.out _ hc0).mono ?_
  rintro e w1 ⟨rfl, hc1⟩
  have cw1 := hc0.trans hc1
  replace c0 := hc1.cell c0 (not_no _)
  have p31 := hc1.obj o3 (not_no _)
  have a0 := cell_obj (i := 0) p31 rfl
  have a1 := cell_obj (i := 1) p31 rfl
  go_wp2_with (with_reducible first | refine stop_append ?_ | refine stop_copy ?_ | refine stop_make ?_ | refine stop_lookup ?_ | refine stop_update ?_ | refine stop_slice ?_ | refine stop_range ?_ | refine stop_next ?_ | refine stop_convert ⟨_, rfl⟩ ?_ | refine stop_convertB ⟨_, _, _, rfl⟩ ?_ | refine stop_eqSlice ⟨_, _, rfl⟩ ?_)
  refine (Ha2.out _ cw1).mono ?_
  rintro e w2 ⟨rfl, hc2⟩
  have cw2 := cw1.trans hc2
  have hc02 := hc1.trans hc2
  have p4 := hc02.obj o4 (not_no _)
  replace c0 := cell_obj (i := 0) p4 rfl
  have c1 := cell_obj (i := 1) p4 rfl
  have c2 := cell_obj (i := 2) p4 rfl
  go_wp2_with (with_reducible first | refine stop_append ?_ | refine stop_copy ?_ | refine stop_make ?_ | refine stop_lookup ?_ | refine stop_update ?_ | refine stop_slice ?_ | refine stop_range ?_ | refine stop_next ?_ | refine stop_convert ⟨_, rfl⟩ ?_ | refine stop_convertB ⟨_, _, _, rfl⟩ ?_ | refine stop_eqSlice ⟨_, _, rfl⟩ ?_)
  refine (Hright.out _ cw2).mono ?_
  rintro e w3 ⟨rfl, hc3⟩
  have cw3 := cw2.trans hc3
  have hc03 := hc02.trans hc3
  clear c0 c1 c2 p4 a0 a1 p31
  rcases rb with _ | _
  focus
    have p3 := hc03.obj o3 (not_no _)
    have p6 := hc03.obj o6 (not_no _)
    have a0 := cell_obj (i := 0) p3 rfl
    have a1 := cell_obj (i := 1) p3 rfl
    have z0 := cell_obj (i := 0) p6 rfl
    have z1 := cell_obj (i := 1) p6 rfl
    have f0 := free_obj (i := 0) p6
    have f1 := free_obj (i := 1) p6
    have Hret := Lib.hid (show R = (1, rows) by rw [HR2.out, installF_wrong Hrb.out.symm])
    go_wp2_with (with_reducible first | refine stop_append ?_ | refine stop_copy ?_ | refine stop_make ?_ | refine stop_lookup ?_ | refine stop_update ?_ | refine stop_slice ?_ | refine stop_range ?_ | refine stop_next ?_ | refine stop_convert ⟨_, rfl⟩ ?_ | refine stop_convertB ⟨_, _, _, rfl⟩ ?_ | refine stop_eqSlice ⟨_, _, rfl⟩ ?_)
    refine bodyPost_ret (v := .tuple #[.agg #[.slice AL nL cL, .slice AT nT cT], .int .i64 1]) (by simp [results, Try.results40, go_sem, *]) rfl ?_
    exact dret Hret.out cw3 hb6 HrF.out _ _
  have Hfit := Lib.hid (show fitsB (nsF rows (t - 1)) l = false → R = (1, rows) from fun h => by rw [HR2.out, installF_unfit h])
  have ht1e : t1 = t - 1 := by
    have := (rightC_iff.1 Hrb.out.symm).1
    rw [Hw1.out, IntWalk.i64_in _ (by omega)]
  have Ht1 := Lib.hid ht1e
  clear ht1e
  go_wp2_with (with_reducible first | refine stop_append ?_ | refine stop_copy ?_ | refine stop_make ?_ | refine stop_lookup ?_ | refine stop_update ?_ | refine stop_slice ?_ | refine stop_range ?_ | refine stop_next ?_ | refine stop_convert ⟨_, rfl⟩ ?_ | refine stop_convertB ⟨_, _, _, rfl⟩ ?_ | refine stop_eqSlice ⟨_, _, rfl⟩ ?_)
  refine (Hchain.out _ cw3).mono ?_
  rintro e w4 ⟨rfl, hc4⟩
  have cw4 := cw3.trans hc4
  have hc04 := hc03.trans hc4
  by_cases hch : (chainF l 0 []).1 = l.length
  case neg =>
    have Hnf := Lib.hid (Hfit.out (fits_chain hch))
    clear Hchain
    generalize (chainF l 0 []).1 = m at *
    have k1 : ((m : Int) == l.length) = false := beq_false_of_ne (by omega)
    have k2 : (m == l.length) = false := beq_false_of_ne hch
    clear hch
    have p3 := hc04.obj o3 (not_no _)
    have p6 := hc04.obj o6 (not_no _)
    have a0 := cell_obj (i := 0) p3 rfl
    have a1 := cell_obj (i := 1) p3 rfl
    have z0 := cell_obj (i := 0) p6 rfl
    have z1 := cell_obj (i := 1) p6 rfl
    have f0 := free_obj (i := 0) p6
    have f1 := free_obj (i := 1) p6
    have Hret := Lib.hid (Hnf.out)
    go_wp2_with (with_reducible first | refine stop_append ?_ | refine stop_copy ?_ | refine stop_make ?_ | refine stop_lookup ?_ | refine stop_update ?_ | refine stop_slice ?_ | refine stop_range ?_ | refine stop_next ?_ | refine stop_convert ⟨_, rfl⟩ ?_ | refine stop_convertB ⟨_, _, _, rfl⟩ ?_ | refine stop_eqSlice ⟨_, _, rfl⟩ ?_)
    refine bodyPost_ret (v := .tuple #[.agg #[.slice AL nL cL, .slice AT nT cT], .int .i64 1]) (by simp [results, Try.results40, go_sem, *]) rfl ?_
    exact dret Hret.out cw4 hb6 HrF.out _ _
  rw [hch]
  have Hch := Lib.hid hch
  clear hch
  have hl64 := Hl.out.1
  have hao' : ∀ i, ao = some i → i < rows.length := fun i h => by have := Hao.out; rw [h] at this; exact (atR_some hi0 this.symm).1
  have Hai := Lib.hid hao'
  clear hao'
  have hbad : ∃ bd : Ent → Bool, bd = badB (nsF rows t1) := ⟨_, rfl⟩
  obtain ⟨bd, hbd⟩ := hbad
  have Hbd := Lib.hid hbd
  clear hbd
  have Hfit2 := Lib.hid (show (∀ e ∈ l, bd e = false) → fitsB (nsF rows (t - 1)) l = true from fun h => by
    unfold fitsB
    rw [decide_eq_true Hch.out, Bool.true_and, ← Ht1.out, ← Hbd.out]
    rw [Bool.not_eq_true', List.any_eq_false]
    exact fun e he => by rw [h e he]; simp)
  have Hfit3 := Lib.hid (show ∀ e ∈ l, bd e = true → R = (1, rows) from fun e he h => Hfit.out (by
    unfold fitsB
    rw [← Ht1.out, ← Hbd.out, Bool.and_eq_false_iff]; right
    rw [Bool.not_eq_false', List.any_eq_true]
    exact ⟨e, he, h⟩))
  have HG := Lib.hid (show (∀ e ∈ l, bd e = false) → R = installG rows t q s l true oo ao from fun h => by
    rw [HR2.out, installF, ← Hrb.out, Hfit2.out h, ← Ht1.out, ← Hao.out, ← Hoo.out]; rfl)
  clear Hright Hfit Hfit2 HR2 hc1 hc2 hc3 hc4 cw1 cw2 cw3 hc02 hc03
  go_wp2_with (with_reducible first | refine stop_append ?_ | refine stop_copy ?_ | refine stop_make ?_ | refine stop_lookup ?_ | refine stop_update ?_ | refine stop_slice ?_ | refine stop_range ?_ | refine stop_next ?_ | refine stop_convert ⟨_, rfl⟩ ?_ | refine stop_convertB ⟨_, _, _, rfl⟩ ?_ | refine stop_eqSlice ⟨_, _, rfl⟩ ?_)
  rcases ao with _ | i
  focus
    have Hg := Lib.hid (HG.out (fun e _ => by rw [Hbd.out, show nsF rows t1 = none by unfold nsF; rw [← Hao.out]; rfl]; rfl))
    clear HG Hfit3 Hbd
    simp only [atI_some, atI_none] at *
    go_loopw [10] (fun v10 wr => v10 = .int .i64 0 ∧ wr = w4) (fun _ _ => 0)
    case atStart => exact ⟨rfl, rfl⟩
    case round =>
      obtain ⟨rfl, rfl⟩ := hrel
      rcases oo with _ | j
      focus
        simp only [atI_some, atI_none] at *
        by_cases hl0 : 0 < (l.length : Int)
        focus
          have p3 := hc04.obj o3 (not_no _)
          have p6 := hc04.obj o6 (not_no _)
          have a0 := cell_obj (i := 0) p3 rfl
          have a1 := cell_obj (i := 1) p3 rfl
          have z0 := cell_obj (i := 0) p6 rfl
          have z1 := cell_obj (i := 1) p6 rfl
          have f0 := free_obj (i := 0) p6
          have f1 := free_obj (i := 1) p6
          have Hret := Lib.hid (show R = (141, rows) from Hg.out)
          go_wp2_with (with_reducible first | refine stop_append ?_ | refine stop_copy ?_ | refine stop_make ?_ | refine stop_lookup ?_ | refine stop_update ?_ | refine stop_slice ?_ | refine stop_range ?_ | refine stop_next ?_ | refine stop_convert ⟨_, rfl⟩ ?_ | refine stop_convertB ⟨_, _, _, rfl⟩ ?_ | refine stop_eqSlice ⟨_, _, rfl⟩ ?_)
          refine bodyPost_ret (v := .tuple #[.agg #[.slice AL nL cL, .slice AT nT cT], .int .i64 141]) (by simp [results, Try.results40, go_sem, *]) rfl ?_
          exact dret Hret.out cw4 hb6 HrF.out _ _
        focus
          have p3 := hc04.obj o3 (not_no _)
          have p6 := hc04.obj o6 (not_no _)
          have a0 := cell_obj (i := 0) p3 rfl
          have a1 := cell_obj (i := 1) p3 rfl
          have z0 := cell_obj (i := 0) p6 rfl
          have z1 := cell_obj (i := 1) p6 rfl
          have f0 := free_obj (i := 0) p6
          have f1 := free_obj (i := 1) p6
          have Hret := Lib.hid (show R = (141, rows) from Hg.out)
          go_wp2_with (with_reducible first | refine stop_append ?_ | refine stop_copy ?_ | refine stop_make ?_ | refine stop_lookup ?_ | refine stop_update ?_ | refine stop_slice ?_ | refine stop_range ?_ | refine stop_next ?_ | refine stop_convert ⟨_, rfl⟩ ?_ | refine stop_convertB ⟨_, _, _, rfl⟩ ?_ | refine stop_eqSlice ⟨_, _, rfl⟩ ?_)
          refine bodyPost_ret (v := .tuple #[.agg #[.slice AL nL cL, .slice AT nT cT], .int .i64 141]) (by simp [results, Try.results40, go_sem, *]) rfl ?_
          exact dret Hret.out cw4 hb6 HrF.out _ _
      focus
        simp only [atI_some, atI_none] at *
        have hj0 : 0 ≤ (j : Int) := by omega
        have cd := (Chg.refl No wr).drew
        by_cases hl0 : 0 < (l.length : Int)
        focus
          go_wp2_with (with_reducible first | refine stop_append ?_ | refine stop_copy ?_ | refine stop_make ?_ | refine stop_lookup ?_ | refine stop_update ?_ | refine stop_slice ?_ | refine stop_range ?_ | refine stop_next ?_ | refine stop_convert ⟨_, rfl⟩ ?_ | refine stop_convertB ⟨_, _, _, rfl⟩ ?_ | refine stop_eqSlice ⟨_, _, rfl⟩ ?_)
          refine pl_start (fun W => Chg No wr W) (by kernel_rfl) (by kernel_rfl) cd ?_
          ((refine pl_yes (i := 0) (oi := { dst := some 68, op := .move (.tmp 8), type := 3, pos := "ref.go:40", after := #[], guard := none }) (v := ?_) rfl (by kernel_rfl) (by kernel_rfl) rfl ?_ ?_); rotate_left; focus (intro W hW; (try dsimp only at hW); go_split_ands; go_simp; (try (simp (disch := omega) only [IntWalk.i64_in]; (try go_simp))); (try (split; (next => omega); (try go_simp))); try rfl; done))
          try simp only [Act.put, List.setIfInBounds_toArray, List.set_cons_zero, List.set_cons_succ]
          ((refine pl_yes (i := 1) (oi := { dst := some 69, op := .binOp .lss 3 (.tmp 68) (.const (.int .i64 0)) 3, type := 4, pos := "ref.go:40", after := #[{ on := 0, ground := .data }], guard := none }) (v := ?_) rfl (by kernel_rfl) (by kernel_rfl) rfl ?_ ?_); rotate_left; focus (intro W hW; (try dsimp only at hW); go_split_ands; go_simp; (try (simp (disch := omega) only [IntWalk.i64_in]; (try go_simp))); (try (split; (next => omega); (try go_simp))); try rfl; done))
          try simp only [Act.put, List.setIfInBounds_toArray, List.set_cons_zero, List.set_cons_succ]
          ((refine pl_yes (i := 2) (oi := { dst := some 70, op := .move (.tmp 69), type := 4, pos := "ref.go:40", after := #[{ on := 1, ground := .data }], guard := none }) (v := ?_) rfl (by kernel_rfl) (by kernel_rfl) rfl ?_ ?_); rotate_left; focus (intro W hW; (try dsimp only at hW); go_split_ands; go_simp; (try (simp (disch := omega) only [IntWalk.i64_in]; (try go_simp))); (try (split; (next => omega); (try go_simp))); try rfl; done))
          try simp only [Act.put, List.setIfInBounds_toArray, List.set_cons_zero, List.set_cons_succ]
          first | (refine pl_no (i := 3) (oi := { dst := some 71, op := .fieldAddr 82 (.tmp 3) 0, type := 0, pos := "ref.go:40", after := #[{ on := 2, ground := .guard }], guard := some (2, false) }) rfl (by kernel_rfl) (by kernel_rfl) rfl ?_) | ((refine pl_yes (i := 3) (oi := { dst := some 71, op := .fieldAddr 82 (.tmp 3) 0, type := 0, pos := "ref.go:40", after := #[{ on := 2, ground := .guard }], guard := some (2, false) }) (v := ?_) rfl (by kernel_rfl) (by kernel_rfl) rfl ?_ ?_); rotate_left; focus (intro W hW; (try dsimp only at hW); go_split_ands; go_simp; (try (simp (disch := omega) only [IntWalk.i64_in]; (try go_simp))); (try (split; (next => omega); (try go_simp))); try rfl; done))
          try simp only [Act.put, List.setIfInBounds_toArray, List.set_cons_zero, List.set_cons_succ]
          first | (refine pl_no (i := 4) (oi := { dst := some 72, op := .load 79 (.tmp 71), type := 79, pos := "ref.go:40", after := #[{ on := 3, ground := .data }, { on := 2, ground := .guard }], guard := some (2, false) }) rfl (by kernel_rfl) (by kernel_rfl) rfl ?_) | ((refine pl_yes (i := 4) (oi := { dst := some 72, op := .load 79 (.tmp 71), type := 79, pos := "ref.go:40", after := #[{ on := 3, ground := .data }, { on := 2, ground := .guard }], guard := some (2, false) }) (v := ?_) rfl (by kernel_rfl) (by kernel_rfl) rfl ?_ ?_); rotate_left; focus (intro W hW; (try dsimp only at hW); go_split_ands; go_simp; (try (simp (disch := omega) only [IntWalk.i64_in]; (try go_simp))); (try (split; (next => omega); (try go_simp))); try rfl; done))
          try simp only [Act.put, List.setIfInBounds_toArray, List.set_cons_zero, List.set_cons_succ]
          first | (refine pl_no (i := 5) (oi := { dst := some 73, op := .move (.tmp 9), type := 3, pos := "ref.go:40", after := #[{ on := 2, ground := .guard }], guard := some (2, false) }) rfl (by kernel_rfl) (by kernel_rfl) rfl ?_) | ((refine pl_yes (i := 5) (oi := { dst := some 73, op := .move (.tmp 9), type := 3, pos := "ref.go:40", after := #[{ on := 2, ground := .guard }], guard := some (2, false) }) (v := ?_) rfl (by kernel_rfl) (by kernel_rfl) rfl ?_ ?_); rotate_left; focus (intro W hW; (try dsimp only at hW); go_split_ands; go_simp; (try (simp (disch := omega) only [IntWalk.i64_in]; (try go_simp))); (try (split; (next => omega); (try go_simp))); try rfl; done))
          try simp only [Act.put, List.setIfInBounds_toArray, List.set_cons_zero, List.set_cons_succ]
          first | (refine pl_no (i := 6) (oi := { dst := some 74, op := .indexAddr 79 (.tmp 72) (.tmp 73), type := 0, pos := "ref.go:40", after := #[{ on := 4, ground := .data }, { on := 5, ground := .data }, { on := 2, ground := .guard }], guard := some (2, false) }) rfl (by kernel_rfl) (by kernel_rfl) rfl ?_) | ((refine pl_yes (i := 6) (oi := { dst := some 74, op := .indexAddr 79 (.tmp 72) (.tmp 73), type := 0, pos := "ref.go:40", after := #[{ on := 4, ground := .data }, { on := 5, ground := .data }, { on := 2, ground := .guard }], guard := some (2, false) }) (v := ?_) rfl (by kernel_rfl) (by kernel_rfl) rfl ?_ ?_); rotate_left; focus (intro W hW; (try dsimp only at hW); go_split_ands; go_simp; (try (simp (disch := omega) only [IntWalk.i64_in]; (try go_simp))); (try (split; (next => omega); (try go_simp))); try rfl; done))
          try simp only [Act.put, List.setIfInBounds_toArray, List.set_cons_zero, List.set_cons_succ]
          first | (refine pl_no (i := 7) (oi := { dst := some 75, op := .load 63 (.tmp 74), type := 63, pos := "ref.go:40", after := #[{ on := 6, ground := .data }, { on := 2, ground := .guard }], guard := some (2, false) }) rfl (by kernel_rfl) (by kernel_rfl) rfl ?_) | ((refine pl_yes (i := 7) (oi := { dst := some 75, op := .load 63 (.tmp 74), type := 63, pos := "ref.go:40", after := #[{ on := 6, ground := .data }, { on := 2, ground := .guard }], guard := some (2, false) }) (v := ?_) rfl (by kernel_rfl) (by kernel_rfl) rfl ?_ ?_); rotate_left; focus (intro W hW; (try dsimp only at hW); go_split_ands; go_simp; (try (simp (disch := omega) only [IntWalk.i64_in]; (try go_simp))); (try (split; (next => omega); (try go_simp))); try rfl; done))
          try simp only [Act.put, List.setIfInBounds_toArray, List.set_cons_zero, List.set_cons_succ]
          first | (refine pl_no (i := 8) (oi := { dst := some 76, op := .load 63 (.tmp 4), type := 63, pos := "ref.go:40", after := #[{ on := 2, ground := .guard }], guard := some (2, false) }) rfl (by kernel_rfl) (by kernel_rfl) rfl ?_) | ((refine pl_yes (i := 8) (oi := { dst := some 76, op := .load 63 (.tmp 4), type := 63, pos := "ref.go:40", after := #[{ on := 2, ground := .guard }], guard := some (2, false) }) (v := ?_) rfl (by kernel_rfl) (by kernel_rfl) rfl ?_ ?_); rotate_left; focus (intro W hW; (try dsimp only at hW); go_split_ands; go_simp; (try (simp (disch := omega) only [IntWalk.i64_in]; (try go_simp))); (try (split; (next => omega); (try go_simp))); try rfl; done))
          try simp only [Act.put, List.setIfInBounds_toArray, List.set_cons_zero, List.set_cons_succ]
          refine pl_no (i := 9) (oi := { dst := some 77, op := .call { callee := .value (.func 77), args := #[.tmp 75, .tmp 76], argTypes := #[63, 63] }, type := 4, pos := "ref.go:40", after := #[{ on := 7, ground := .data }, { on := 8, ground := .data }, { on := 2, ground := .chain }, { on := 2, ground := .guard }], guard := some (2, false) }) rfl (by kernel_rfl) (by kernel_rfl) rfl ?_
          try simp only [Act.put, List.setIfInBounds_toArray, List.set_cons_zero, List.set_cons_succ]
          first | (refine pl_no (i := 10) (oi := { dst := some 78, op := .unOp .not 4 (.tmp 77), type := 4, pos := "ref.go:40", after := #[{ on := 9, ground := .data }, { on := 2, ground := .guard }], guard := some (2, false) }) rfl (by kernel_rfl) (by kernel_rfl) rfl ?_) | ((refine pl_yes (i := 10) (oi := { dst := some 78, op := .unOp .not 4 (.tmp 77), type := 4, pos := "ref.go:40", after := #[{ on := 9, ground := .data }, { on := 2, ground := .guard }], guard := some (2, false) }) (v := ?_) rfl (by kernel_rfl) (by kernel_rfl) rfl ?_ ?_); rotate_left; focus (intro W hW; (try dsimp only at hW); go_split_ands; go_simp; (try (simp (disch := omega) only [IntWalk.i64_in]; (try go_simp))); (try (split; (next => omega); (try go_simp))); try rfl; done))
          try simp only [Act.put, List.setIfInBounds_toArray, List.set_cons_zero, List.set_cons_succ]
          ((refine pl_yes (i := 11) (oi := { dst := some 79, op := .pick (.tmp 70) (.const (.bool true)) (.tmp 78), type := 4, pos := "ref.go:40", after := #[{ on := 2, ground := .data }, { on := 10, ground := .data }], guard := none }) (v := ?_) rfl (by kernel_rfl) (by kernel_rfl) rfl ?_ ?_); rotate_left; focus (intro W hW; (try dsimp only at hW); go_split_ands; go_simp; (try (simp (disch := omega) only [IntWalk.i64_in]; (try go_simp))); (try (split; (next => omega); (try go_simp))); try rfl; done))
          try simp only [Act.put, List.setIfInBounds_toArray, List.set_cons_zero, List.set_cons_succ]
          ((refine pl_yes (i := 12) (oi := { dst := some 80, op := .move (.tmp 79), type := 4, pos := "ref.go:40", after := #[{ on := 11, ground := .data }, { on := 9, ground := .chain }], guard := none }) (v := ?_) rfl (by kernel_rfl) (by kernel_rfl) rfl ?_ ?_); rotate_left; focus (intro W hW; (try dsimp only at hW); go_split_ands; go_simp; (try (simp (disch := omega) only [IntWalk.i64_in]; (try go_simp))); (try (split; (next => omega); (try go_simp))); try rfl; done))
          try simp only [Act.put, List.setIfInBounds_toArray, List.set_cons_zero, List.set_cons_succ]
          first | (refine pl_no (i := 13) (oi := { dst := some 81, op := .fieldAddr 82 (.tmp 3) 1, type := 0, pos := "ref.go:40", after := #[{ on := 12, ground := .guard }], guard := some (12, false) }) rfl (by kernel_rfl) (by kernel_rfl) rfl ?_) | ((refine pl_yes (i := 13) (oi := { dst := some 81, op := .fieldAddr 82 (.tmp 3) 1, type := 0, pos := "ref.go:40", after := #[{ on := 12, ground := .guard }], guard := some (12, false) }) (v := ?_) rfl (by kernel_rfl) (by kernel_rfl) rfl ?_ ?_); rotate_left; focus (intro W hW; (try dsimp only at hW); go_split_ands; go_simp; (try (simp (disch := omega) only [IntWalk.i64_in]; (try go_simp))); (try (split; (next => omega); (try go_simp))); try rfl; done))
          try simp only [Act.put, List.setIfInBounds_toArray, List.set_cons_zero, List.set_cons_succ]
          first | (refine pl_no (i := 14) (oi := { dst := some 82, op := .load 80 (.tmp 81), type := 80, pos := "ref.go:40", after := #[{ on := 13, ground := .data }, { on := 12, ground := .guard }], guard := some (12, false) }) rfl (by kernel_rfl) (by kernel_rfl) rfl ?_) | ((refine pl_yes (i := 14) (oi := { dst := some 82, op := .load 80 (.tmp 81), type := 80, pos := "ref.go:40", after := #[{ on := 13, ground := .data }, { on := 12, ground := .guard }], guard := some (12, false) }) (v := ?_) rfl (by kernel_rfl) (by kernel_rfl) rfl ?_ ?_); rotate_left; focus (intro W hW; (try dsimp only at hW); go_split_ands; go_simp; (try (simp (disch := omega) only [IntWalk.i64_in]; (try go_simp))); (try (split; (next => omega); (try go_simp))); try rfl; done))
          try simp only [Act.put, List.setIfInBounds_toArray, List.set_cons_zero, List.set_cons_succ]
          first | (refine pl_no (i := 15) (oi := { dst := some 83, op := .move (.tmp 8), type := 3, pos := "ref.go:40", after := #[{ on := 12, ground := .guard }], guard := some (12, false) }) rfl (by kernel_rfl) (by kernel_rfl) rfl ?_) | ((refine pl_yes (i := 15) (oi := { dst := some 83, op := .move (.tmp 8), type := 3, pos := "ref.go:40", after := #[{ on := 12, ground := .guard }], guard := some (12, false) }) (v := ?_) rfl (by kernel_rfl) (by kernel_rfl) rfl ?_ ?_); rotate_left; focus (intro W hW; (try dsimp only at hW); go_split_ands; go_simp; (try (simp (disch := omega) only [IntWalk.i64_in]; (try go_simp))); (try (split; (next => omega); (try go_simp))); try rfl; done))
          try simp only [Act.put, List.setIfInBounds_toArray, List.set_cons_zero, List.set_cons_succ]
          first | (refine pl_no (i := 16) (oi := { dst := some 84, op := .indexAddr 80 (.tmp 82) (.tmp 83), type := 0, pos := "ref.go:40", after := #[{ on := 14, ground := .data }, { on := 15, ground := .data }, { on := 12, ground := .guard }], guard := some (12, false) }) rfl (by kernel_rfl) (by kernel_rfl) rfl ?_) | ((refine pl_yes (i := 16) (oi := { dst := some 84, op := .indexAddr 80 (.tmp 82) (.tmp 83), type := 0, pos := "ref.go:40", after := #[{ on := 14, ground := .data }, { on := 15, ground := .data }, { on := 12, ground := .guard }], guard := some (12, false) }) (v := ?_) rfl (by kernel_rfl) (by kernel_rfl) rfl ?_ ?_); rotate_left; focus (intro W hW; (try dsimp only at hW); go_split_ands; go_simp; (try (simp (disch := omega) only [IntWalk.i64_in]; (try go_simp))); (try (split; (next => omega); (try go_simp))); try rfl; done))
          try simp only [Act.put, List.setIfInBounds_toArray, List.set_cons_zero, List.set_cons_succ]
          first | (refine pl_no (i := 17) (oi := { dst := some 85, op := .load 22 (.tmp 84), type := 22, pos := "ref.go:40", after := #[{ on := 16, ground := .data }, { on := 12, ground := .guard }], guard := some (12, false) }) rfl (by kernel_rfl) (by kernel_rfl) rfl ?_) | ((refine pl_yes (i := 17) (oi := { dst := some 85, op := .load 22 (.tmp 84), type := 22, pos := "ref.go:40", after := #[{ on := 16, ground := .data }, { on := 12, ground := .guard }], guard := some (12, false) }) (v := ?_) rfl (by kernel_rfl) (by kernel_rfl) rfl ?_ ?_); rotate_left; focus (intro W hW; (try dsimp only at hW); go_split_ands; go_simp; (try (simp (disch := omega) only [IntWalk.i64_in]; (try go_simp))); (try (split; (next => omega); (try go_simp))); try rfl; done))
          try simp only [Act.put, List.setIfInBounds_toArray, List.set_cons_zero, List.set_cons_succ]
          first | (refine pl_no (i := 18) (oi := { dst := some 86, op := .move (.tmp 2), type := 22, pos := "ref.go:40", after := #[{ on := 12, ground := .guard }], guard := some (12, false) }) rfl (by kernel_rfl) (by kernel_rfl) rfl ?_) | ((refine pl_yes (i := 18) (oi := { dst := some 86, op := .move (.tmp 2), type := 22, pos := "ref.go:40", after := #[{ on := 12, ground := .guard }], guard := some (12, false) }) (v := ?_) rfl (by kernel_rfl) (by kernel_rfl) rfl ?_ ?_); rotate_left; focus (intro W hW; (try dsimp only at hW); go_split_ands; go_simp; (try (simp (disch := omega) only [IntWalk.i64_in]; (try go_simp))); (try (split; (next => omega); (try go_simp))); try rfl; done))
          try simp only [Act.put, List.setIfInBounds_toArray, List.set_cons_zero, List.set_cons_succ]
          refine pl_no (i := 19) (oi := { dst := some 87, op := .call { callee := .value (.func 78), args := #[.tmp 85, .tmp 86], argTypes := #[22, 22] }, type := 4, pos := "ref.go:40", after := #[{ on := 17, ground := .data }, { on := 18, ground := .data }, { on := 12, ground := .chain }, { on := 12, ground := .guard }], guard := some (12, false) }) rfl (by kernel_rfl) (by kernel_rfl) rfl ?_
          try simp only [Act.put, List.setIfInBounds_toArray, List.set_cons_zero, List.set_cons_succ]
          first | (refine pl_no (i := 20) (oi := { dst := some 88, op := .unOp .not 4 (.tmp 87), type := 4, pos := "ref.go:40", after := #[{ on := 19, ground := .data }, { on := 12, ground := .guard }], guard := some (12, false) }) rfl (by kernel_rfl) (by kernel_rfl) rfl ?_) | ((refine pl_yes (i := 20) (oi := { dst := some 88, op := .unOp .not 4 (.tmp 87), type := 4, pos := "ref.go:40", after := #[{ on := 19, ground := .data }, { on := 12, ground := .guard }], guard := some (12, false) }) (v := ?_) rfl (by kernel_rfl) (by kernel_rfl) rfl ?_ ?_); rotate_left; focus (intro W hW; (try dsimp only at hW); go_split_ands; go_simp; (try (simp (disch := omega) only [IntWalk.i64_in]; (try go_simp))); (try (split; (next => omega); (try go_simp))); try rfl; done))
          try simp only [Act.put, List.setIfInBounds_toArray, List.set_cons_zero, List.set_cons_succ]
          ((refine pl_yes (i := 21) (oi := { dst := some 89, op := .pick (.tmp 80) (.const (.bool true)) (.tmp 88), type := 4, pos := "ref.go:40", after := #[{ on := 12, ground := .data }, { on := 20, ground := .data }], guard := none }) (v := ?_) rfl (by kernel_rfl) (by kernel_rfl) rfl ?_ ?_); rotate_left; focus (intro W hW; (try dsimp only at hW); go_split_ands; go_simp; (try (simp (disch := omega) only [IntWalk.i64_in]; (try go_simp))); (try (split; (next => omega); (try go_simp))); try rfl; done))
          try simp only [Act.put, List.setIfInBounds_toArray, List.set_cons_zero, List.set_cons_succ]
          refine pl_done (by kernel_rfl)  ?_
          rintro w5 hc5
          have hc05 := hc04.trans hc5
          have p3 := hc05.obj o3 (not_no _)
          have p6 := hc05.obj o6 (not_no _)
          have a0 := cell_obj (i := 0) p3 rfl
          have a1 := cell_obj (i := 1) p3 rfl
          have z0 := cell_obj (i := 0) p6 rfl
          have z1 := cell_obj (i := 1) p6 rfl
          have f0 := free_obj (i := 0) p6
          have f1 := free_obj (i := 1) p6
          have Hret := Lib.hid (show R = (140, rows) from Hg.out)
          go_wp2_with (with_reducible first | refine stop_append ?_ | refine stop_copy ?_ | refine stop_make ?_ | refine stop_lookup ?_ | refine stop_update ?_ | refine stop_slice ?_ | refine stop_range ?_ | refine stop_next ?_ | refine stop_convert ⟨_, rfl⟩ ?_ | refine stop_convertB ⟨_, _, _, rfl⟩ ?_ | refine stop_eqSlice ⟨_, _, rfl⟩ ?_)
          refine bodyPost_ret (v := .tuple #[.agg #[.slice AL nL cL, .slice AT nT cT], .int .i64 140]) (by simp [results, Try.results40, go_sem, *]) rfl ?_
          exact dret Hret.out (cw4.trans hc5) hb6 HrF.out _ _
        focus
          go_wp2_with (with_reducible first | refine stop_append ?_ | refine stop_copy ?_ | refine stop_make ?_ | refine stop_lookup ?_ | refine stop_update ?_ | refine stop_slice ?_ | refine stop_range ?_ | refine stop_next ?_ | refine stop_convert ⟨_, rfl⟩ ?_ | refine stop_convertB ⟨_, _, _, rfl⟩ ?_ | refine stop_eqSlice ⟨_, _, rfl⟩ ?_)
          refine pl_start (fun W => Chg No wr W) (by kernel_rfl) (by kernel_rfl) cd ?_
          ((refine pl_yes (i := 0) (oi := { dst := some 68, op := .move (.tmp 8), type := 3, pos := "ref.go:40", after := #[], guard := none }) (v := ?_) rfl (by kernel_rfl) (by kernel_rfl) rfl ?_ ?_); rotate_left; focus (intro W hW; (try dsimp only at hW); go_split_ands; go_simp; (try (simp (disch := omega) only [IntWalk.i64_in]; (try go_simp))); (try (split; (next => omega); (try go_simp))); try rfl; done))
          try simp only [Act.put, List.setIfInBounds_toArray, List.set_cons_zero, List.set_cons_succ]
          ((refine pl_yes (i := 1) (oi := { dst := some 69, op := .binOp .lss 3 (.tmp 68) (.const (.int .i64 0)) 3, type := 4, pos := "ref.go:40", after := #[{ on := 0, ground := .data }], guard := none }) (v := ?_) rfl (by kernel_rfl) (by kernel_rfl) rfl ?_ ?_); rotate_left; focus (intro W hW; (try dsimp only at hW); go_split_ands; go_simp; (try (simp (disch := omega) only [IntWalk.i64_in]; (try go_simp))); (try (split; (next => omega); (try go_simp))); try rfl; done))
          try simp only [Act.put, List.setIfInBounds_toArray, List.set_cons_zero, List.set_cons_succ]
          ((refine pl_yes (i := 2) (oi := { dst := some 70, op := .move (.tmp 69), type := 4, pos := "ref.go:40", after := #[{ on := 1, ground := .data }], guard := none }) (v := ?_) rfl (by kernel_rfl) (by kernel_rfl) rfl ?_ ?_); rotate_left; focus (intro W hW; (try dsimp only at hW); go_split_ands; go_simp; (try (simp (disch := omega) only [IntWalk.i64_in]; (try go_simp))); (try (split; (next => omega); (try go_simp))); try rfl; done))
          try simp only [Act.put, List.setIfInBounds_toArray, List.set_cons_zero, List.set_cons_succ]
          first | (refine pl_no (i := 3) (oi := { dst := some 71, op := .fieldAddr 82 (.tmp 3) 0, type := 0, pos := "ref.go:40", after := #[{ on := 2, ground := .guard }], guard := some (2, false) }) rfl (by kernel_rfl) (by kernel_rfl) rfl ?_) | ((refine pl_yes (i := 3) (oi := { dst := some 71, op := .fieldAddr 82 (.tmp 3) 0, type := 0, pos := "ref.go:40", after := #[{ on := 2, ground := .guard }], guard := some (2, false) }) (v := ?_) rfl (by kernel_rfl) (by kernel_rfl) rfl ?_ ?_); rotate_left; focus (intro W hW; (try dsimp only at hW); go_split_ands; go_simp; (try (simp (disch := omega) only [IntWalk.i64_in]; (try go_simp))); (try (split; (next => omega); (try go_simp))); try rfl; done))
          try simp only [Act.put, List.setIfInBounds_toArray, List.set_cons_zero, List.set_cons_succ]
          first | (refine pl_no (i := 4) (oi := { dst := some 72, op := .load 79 (.tmp 71), type := 79, pos := "ref.go:40", after := #[{ on := 3, ground := .data }, { on := 2, ground := .guard }], guard := some (2, false) }) rfl (by kernel_rfl) (by kernel_rfl) rfl ?_) | ((refine pl_yes (i := 4) (oi := { dst := some 72, op := .load 79 (.tmp 71), type := 79, pos := "ref.go:40", after := #[{ on := 3, ground := .data }, { on := 2, ground := .guard }], guard := some (2, false) }) (v := ?_) rfl (by kernel_rfl) (by kernel_rfl) rfl ?_ ?_); rotate_left; focus (intro W hW; (try dsimp only at hW); go_split_ands; go_simp; (try (simp (disch := omega) only [IntWalk.i64_in]; (try go_simp))); (try (split; (next => omega); (try go_simp))); try rfl; done))
          try simp only [Act.put, List.setIfInBounds_toArray, List.set_cons_zero, List.set_cons_succ]
          first | (refine pl_no (i := 5) (oi := { dst := some 73, op := .move (.tmp 9), type := 3, pos := "ref.go:40", after := #[{ on := 2, ground := .guard }], guard := some (2, false) }) rfl (by kernel_rfl) (by kernel_rfl) rfl ?_) | ((refine pl_yes (i := 5) (oi := { dst := some 73, op := .move (.tmp 9), type := 3, pos := "ref.go:40", after := #[{ on := 2, ground := .guard }], guard := some (2, false) }) (v := ?_) rfl (by kernel_rfl) (by kernel_rfl) rfl ?_ ?_); rotate_left; focus (intro W hW; (try dsimp only at hW); go_split_ands; go_simp; (try (simp (disch := omega) only [IntWalk.i64_in]; (try go_simp))); (try (split; (next => omega); (try go_simp))); try rfl; done))
          try simp only [Act.put, List.setIfInBounds_toArray, List.set_cons_zero, List.set_cons_succ]
          first | (refine pl_no (i := 6) (oi := { dst := some 74, op := .indexAddr 79 (.tmp 72) (.tmp 73), type := 0, pos := "ref.go:40", after := #[{ on := 4, ground := .data }, { on := 5, ground := .data }, { on := 2, ground := .guard }], guard := some (2, false) }) rfl (by kernel_rfl) (by kernel_rfl) rfl ?_) | ((refine pl_yes (i := 6) (oi := { dst := some 74, op := .indexAddr 79 (.tmp 72) (.tmp 73), type := 0, pos := "ref.go:40", after := #[{ on := 4, ground := .data }, { on := 5, ground := .data }, { on := 2, ground := .guard }], guard := some (2, false) }) (v := ?_) rfl (by kernel_rfl) (by kernel_rfl) rfl ?_ ?_); rotate_left; focus (intro W hW; (try dsimp only at hW); go_split_ands; go_simp; (try (simp (disch := omega) only [IntWalk.i64_in]; (try go_simp))); (try (split; (next => omega); (try go_simp))); try rfl; done))
          try simp only [Act.put, List.setIfInBounds_toArray, List.set_cons_zero, List.set_cons_succ]
          first | (refine pl_no (i := 7) (oi := { dst := some 75, op := .load 63 (.tmp 74), type := 63, pos := "ref.go:40", after := #[{ on := 6, ground := .data }, { on := 2, ground := .guard }], guard := some (2, false) }) rfl (by kernel_rfl) (by kernel_rfl) rfl ?_) | ((refine pl_yes (i := 7) (oi := { dst := some 75, op := .load 63 (.tmp 74), type := 63, pos := "ref.go:40", after := #[{ on := 6, ground := .data }, { on := 2, ground := .guard }], guard := some (2, false) }) (v := ?_) rfl (by kernel_rfl) (by kernel_rfl) rfl ?_ ?_); rotate_left; focus (intro W hW; (try dsimp only at hW); go_split_ands; go_simp; (try (simp (disch := omega) only [IntWalk.i64_in]; (try go_simp))); (try (split; (next => omega); (try go_simp))); try rfl; done))
          try simp only [Act.put, List.setIfInBounds_toArray, List.set_cons_zero, List.set_cons_succ]
          first | (refine pl_no (i := 8) (oi := { dst := some 76, op := .load 63 (.tmp 4), type := 63, pos := "ref.go:40", after := #[{ on := 2, ground := .guard }], guard := some (2, false) }) rfl (by kernel_rfl) (by kernel_rfl) rfl ?_) | ((refine pl_yes (i := 8) (oi := { dst := some 76, op := .load 63 (.tmp 4), type := 63, pos := "ref.go:40", after := #[{ on := 2, ground := .guard }], guard := some (2, false) }) (v := ?_) rfl (by kernel_rfl) (by kernel_rfl) rfl ?_ ?_); rotate_left; focus (intro W hW; (try dsimp only at hW); go_split_ands; go_simp; (try (simp (disch := omega) only [IntWalk.i64_in]; (try go_simp))); (try (split; (next => omega); (try go_simp))); try rfl; done))
          try simp only [Act.put, List.setIfInBounds_toArray, List.set_cons_zero, List.set_cons_succ]
          refine pl_no (i := 9) (oi := { dst := some 77, op := .call { callee := .value (.func 77), args := #[.tmp 75, .tmp 76], argTypes := #[63, 63] }, type := 4, pos := "ref.go:40", after := #[{ on := 7, ground := .data }, { on := 8, ground := .data }, { on := 2, ground := .chain }, { on := 2, ground := .guard }], guard := some (2, false) }) rfl (by kernel_rfl) (by kernel_rfl) rfl ?_
          try simp only [Act.put, List.setIfInBounds_toArray, List.set_cons_zero, List.set_cons_succ]
          first | (refine pl_no (i := 10) (oi := { dst := some 78, op := .unOp .not 4 (.tmp 77), type := 4, pos := "ref.go:40", after := #[{ on := 9, ground := .data }, { on := 2, ground := .guard }], guard := some (2, false) }) rfl (by kernel_rfl) (by kernel_rfl) rfl ?_) | ((refine pl_yes (i := 10) (oi := { dst := some 78, op := .unOp .not 4 (.tmp 77), type := 4, pos := "ref.go:40", after := #[{ on := 9, ground := .data }, { on := 2, ground := .guard }], guard := some (2, false) }) (v := ?_) rfl (by kernel_rfl) (by kernel_rfl) rfl ?_ ?_); rotate_left; focus (intro W hW; (try dsimp only at hW); go_split_ands; go_simp; (try (simp (disch := omega) only [IntWalk.i64_in]; (try go_simp))); (try (split; (next => omega); (try go_simp))); try rfl; done))
          try simp only [Act.put, List.setIfInBounds_toArray, List.set_cons_zero, List.set_cons_succ]
          ((refine pl_yes (i := 11) (oi := { dst := some 79, op := .pick (.tmp 70) (.const (.bool true)) (.tmp 78), type := 4, pos := "ref.go:40", after := #[{ on := 2, ground := .data }, { on := 10, ground := .data }], guard := none }) (v := ?_) rfl (by kernel_rfl) (by kernel_rfl) rfl ?_ ?_); rotate_left; focus (intro W hW; (try dsimp only at hW); go_split_ands; go_simp; (try (simp (disch := omega) only [IntWalk.i64_in]; (try go_simp))); (try (split; (next => omega); (try go_simp))); try rfl; done))
          try simp only [Act.put, List.setIfInBounds_toArray, List.set_cons_zero, List.set_cons_succ]
          ((refine pl_yes (i := 12) (oi := { dst := some 80, op := .move (.tmp 79), type := 4, pos := "ref.go:40", after := #[{ on := 11, ground := .data }, { on := 9, ground := .chain }], guard := none }) (v := ?_) rfl (by kernel_rfl) (by kernel_rfl) rfl ?_ ?_); rotate_left; focus (intro W hW; (try dsimp only at hW); go_split_ands; go_simp; (try (simp (disch := omega) only [IntWalk.i64_in]; (try go_simp))); (try (split; (next => omega); (try go_simp))); try rfl; done))
          try simp only [Act.put, List.setIfInBounds_toArray, List.set_cons_zero, List.set_cons_succ]
          first | (refine pl_no (i := 13) (oi := { dst := some 81, op := .fieldAddr 82 (.tmp 3) 1, type := 0, pos := "ref.go:40", after := #[{ on := 12, ground := .guard }], guard := some (12, false) }) rfl (by kernel_rfl) (by kernel_rfl) rfl ?_) | ((refine pl_yes (i := 13) (oi := { dst := some 81, op := .fieldAddr 82 (.tmp 3) 1, type := 0, pos := "ref.go:40", after := #[{ on := 12, ground := .guard }], guard := some (12, false) }) (v := ?_) rfl (by kernel_rfl) (by kernel_rfl) rfl ?_ ?_); rotate_left; focus (intro W hW; (try dsimp only at hW); go_split_ands; go_simp; (try (simp (disch := omega) only [IntWalk.i64_in]; (try go_simp))); (try (split; (next => omega); (try go_simp))); try rfl; done))
          try simp only [Act.put, List.setIfInBounds_toArray, List.set_cons_zero, List.set_cons_succ]
          first | (refine pl_no (i := 14) (oi := { dst := some 82, op := .load 80 (.tmp 81), type := 80, pos := "ref.go:40", after := #[{ on := 13, ground := .data }, { on := 12, ground := .guard }], guard := some (12, false) }) rfl (by kernel_rfl) (by kernel_rfl) rfl ?_) | ((refine pl_yes (i := 14) (oi := { dst := some 82, op := .load 80 (.tmp 81), type := 80, pos := "ref.go:40", after := #[{ on := 13, ground := .data }, { on := 12, ground := .guard }], guard := some (12, false) }) (v := ?_) rfl (by kernel_rfl) (by kernel_rfl) rfl ?_ ?_); rotate_left; focus (intro W hW; (try dsimp only at hW); go_split_ands; go_simp; (try (simp (disch := omega) only [IntWalk.i64_in]; (try go_simp))); (try (split; (next => omega); (try go_simp))); try rfl; done))
          try simp only [Act.put, List.setIfInBounds_toArray, List.set_cons_zero, List.set_cons_succ]
          first | (refine pl_no (i := 15) (oi := { dst := some 83, op := .move (.tmp 8), type := 3, pos := "ref.go:40", after := #[{ on := 12, ground := .guard }], guard := some (12, false) }) rfl (by kernel_rfl) (by kernel_rfl) rfl ?_) | ((refine pl_yes (i := 15) (oi := { dst := some 83, op := .move (.tmp 8), type := 3, pos := "ref.go:40", after := #[{ on := 12, ground := .guard }], guard := some (12, false) }) (v := ?_) rfl (by kernel_rfl) (by kernel_rfl) rfl ?_ ?_); rotate_left; focus (intro W hW; (try dsimp only at hW); go_split_ands; go_simp; (try (simp (disch := omega) only [IntWalk.i64_in]; (try go_simp))); (try (split; (next => omega); (try go_simp))); try rfl; done))
          try simp only [Act.put, List.setIfInBounds_toArray, List.set_cons_zero, List.set_cons_succ]
          first | (refine pl_no (i := 16) (oi := { dst := some 84, op := .indexAddr 80 (.tmp 82) (.tmp 83), type := 0, pos := "ref.go:40", after := #[{ on := 14, ground := .data }, { on := 15, ground := .data }, { on := 12, ground := .guard }], guard := some (12, false) }) rfl (by kernel_rfl) (by kernel_rfl) rfl ?_) | ((refine pl_yes (i := 16) (oi := { dst := some 84, op := .indexAddr 80 (.tmp 82) (.tmp 83), type := 0, pos := "ref.go:40", after := #[{ on := 14, ground := .data }, { on := 15, ground := .data }, { on := 12, ground := .guard }], guard := some (12, false) }) (v := ?_) rfl (by kernel_rfl) (by kernel_rfl) rfl ?_ ?_); rotate_left; focus (intro W hW; (try dsimp only at hW); go_split_ands; go_simp; (try (simp (disch := omega) only [IntWalk.i64_in]; (try go_simp))); (try (split; (next => omega); (try go_simp))); try rfl; done))
          try simp only [Act.put, List.setIfInBounds_toArray, List.set_cons_zero, List.set_cons_succ]
          first | (refine pl_no (i := 17) (oi := { dst := some 85, op := .load 22 (.tmp 84), type := 22, pos := "ref.go:40", after := #[{ on := 16, ground := .data }, { on := 12, ground := .guard }], guard := some (12, false) }) rfl (by kernel_rfl) (by kernel_rfl) rfl ?_) | ((refine pl_yes (i := 17) (oi := { dst := some 85, op := .load 22 (.tmp 84), type := 22, pos := "ref.go:40", after := #[{ on := 16, ground := .data }, { on := 12, ground := .guard }], guard := some (12, false) }) (v := ?_) rfl (by kernel_rfl) (by kernel_rfl) rfl ?_ ?_); rotate_left; focus (intro W hW; (try dsimp only at hW); go_split_ands; go_simp; (try (simp (disch := omega) only [IntWalk.i64_in]; (try go_simp))); (try (split; (next => omega); (try go_simp))); try rfl; done))
          try simp only [Act.put, List.setIfInBounds_toArray, List.set_cons_zero, List.set_cons_succ]
          first | (refine pl_no (i := 18) (oi := { dst := some 86, op := .move (.tmp 2), type := 22, pos := "ref.go:40", after := #[{ on := 12, ground := .guard }], guard := some (12, false) }) rfl (by kernel_rfl) (by kernel_rfl) rfl ?_) | ((refine pl_yes (i := 18) (oi := { dst := some 86, op := .move (.tmp 2), type := 22, pos := "ref.go:40", after := #[{ on := 12, ground := .guard }], guard := some (12, false) }) (v := ?_) rfl (by kernel_rfl) (by kernel_rfl) rfl ?_ ?_); rotate_left; focus (intro W hW; (try dsimp only at hW); go_split_ands; go_simp; (try (simp (disch := omega) only [IntWalk.i64_in]; (try go_simp))); (try (split; (next => omega); (try go_simp))); try rfl; done))
          try simp only [Act.put, List.setIfInBounds_toArray, List.set_cons_zero, List.set_cons_succ]
          refine pl_no (i := 19) (oi := { dst := some 87, op := .call { callee := .value (.func 78), args := #[.tmp 85, .tmp 86], argTypes := #[22, 22] }, type := 4, pos := "ref.go:40", after := #[{ on := 17, ground := .data }, { on := 18, ground := .data }, { on := 12, ground := .chain }, { on := 12, ground := .guard }], guard := some (12, false) }) rfl (by kernel_rfl) (by kernel_rfl) rfl ?_
          try simp only [Act.put, List.setIfInBounds_toArray, List.set_cons_zero, List.set_cons_succ]
          first | (refine pl_no (i := 20) (oi := { dst := some 88, op := .unOp .not 4 (.tmp 87), type := 4, pos := "ref.go:40", after := #[{ on := 19, ground := .data }, { on := 12, ground := .guard }], guard := some (12, false) }) rfl (by kernel_rfl) (by kernel_rfl) rfl ?_) | ((refine pl_yes (i := 20) (oi := { dst := some 88, op := .unOp .not 4 (.tmp 87), type := 4, pos := "ref.go:40", after := #[{ on := 19, ground := .data }, { on := 12, ground := .guard }], guard := some (12, false) }) (v := ?_) rfl (by kernel_rfl) (by kernel_rfl) rfl ?_ ?_); rotate_left; focus (intro W hW; (try dsimp only at hW); go_split_ands; go_simp; (try (simp (disch := omega) only [IntWalk.i64_in]; (try go_simp))); (try (split; (next => omega); (try go_simp))); try rfl; done))
          try simp only [Act.put, List.setIfInBounds_toArray, List.set_cons_zero, List.set_cons_succ]
          ((refine pl_yes (i := 21) (oi := { dst := some 89, op := .pick (.tmp 80) (.const (.bool true)) (.tmp 88), type := 4, pos := "ref.go:40", after := #[{ on := 12, ground := .data }, { on := 20, ground := .data }], guard := none }) (v := ?_) rfl (by kernel_rfl) (by kernel_rfl) rfl ?_ ?_); rotate_left; focus (intro W hW; (try dsimp only at hW); go_split_ands; go_simp; (try (simp (disch := omega) only [IntWalk.i64_in]; (try go_simp))); (try (split; (next => omega); (try go_simp))); try rfl; done))
          try simp only [Act.put, List.setIfInBounds_toArray, List.set_cons_zero, List.set_cons_succ]
          refine pl_done (by kernel_rfl)  ?_
          rintro w5 hc5
          have hc05 := hc04.trans hc5
          have p3 := hc05.obj o3 (not_no _)
          have p6 := hc05.obj o6 (not_no _)
          have a0 := cell_obj (i := 0) p3 rfl
          have a1 := cell_obj (i := 1) p3 rfl
          have z0 := cell_obj (i := 0) p6 rfl
          have z1 := cell_obj (i := 1) p6 rfl
          have f0 := free_obj (i := 0) p6
          have f1 := free_obj (i := 1) p6
          have Hret := Lib.hid (show R = (140, rows) from Hg.out)
          go_wp2_with (with_reducible first | refine stop_append ?_ | refine stop_copy ?_ | refine stop_make ?_ | refine stop_lookup ?_ | refine stop_update ?_ | refine stop_slice ?_ | refine stop_range ?_ | refine stop_next ?_ | refine stop_convert ⟨_, rfl⟩ ?_ | refine stop_convertB ⟨_, _, _, rfl⟩ ?_ | refine stop_eqSlice ⟨_, _, rfl⟩ ?_)
          refine bodyPost_ret (v := .tuple #[.agg #[.slice AL nL cL, .slice AT nT cT], .int .i64 140]) (by simp [results, Try.results40, go_sem, *]) rfl ?_
          exact dret Hret.out (cw4.trans hc5) hb6 HrF.out _ _
  have hil := Hai.out i rfl
  obtain ⟨bL, oL, vqi, vsi, rfl, hbL, -, ssi, e0, e1, e2⟩ := cfg_get (HrF.out _ cw4).l i hil
  obtain ⟨Asi, csi, rfl⟩ := ssi.slice
  have hbdE : ∀ e : Ent, bd e = (decide (e.2.1 = 1) && !decide (e.2.2.1.length = rows[i].2.2.1.length)) := fun e => by
    rw [Hbd.out, show nsF rows t1 = some rows[i].2.2.1.length by unfold nsF; rw [← Hao.out, Option.map_some, rowA_get rows i hil]]
    rfl
  have HbdE := Lib.hid hbdE
  have hiL : i < nL := by have := HnL.out; omega
  clear hbdE ssi e0 e1
  generalize rows[i].2.2.1.length = ns at *
  simp only [atI_some, atI_none] at *
  have hi0' : 0 ≤ (i : Int) := by omega
  go_loopw [10] (fun v10 wr => ∃ k : Nat, k ≤ l.length ∧ v10 = .int .i64 k ∧ Chg No w4 wr ∧ ∀ e ∈ l.take k, bd e = false) (fun v10 _ => l.length - (intOf v10).toNat)
  case atStart => exact ⟨0, by omega, rfl, Chg.refl _ _, by simp⟩
  case round =>
    obtain ⟨k, hk, rfl, hc, hall⟩ := hrel
    have Hall := Lib.hid hall
    have cwr := cw4.trans hc
    have hc0r := hc04.trans hc
    have cd := (Chg.refl No wr).drew
    clear hall
    by_cases hlt : k < l.length
    focus
      obtain ⟨bE, oE, vc, rfl, -, hbE, sc, g0, g1, g2, -, -, -⟩ := ent_get (Ht.out wr cwr) k hlt
      have Hmem := Lib.hid (List.getElem_mem hlt)
      have Htk := Lib.hid (List.take_succ_eq_append_getElem hlt)
      have Hb1 := Lib.hid (HbdE.out l[k])
      generalize l[k] = y at *
      obtain ⟨y0, y1, y2, yr⟩ := y
      simp only at sc g0 g1 g2 Hb1
      obtain ⟨Cc, cc, rfl⟩ := sc.slice
      clear sc g0
      have p3 := hc0r.obj o3 (not_no _)
      have a0 := cell_obj (i := 0) p3 rfl
      replace e2 := hc.cell e2 (not_no _)
      clear p3
      have HS := Lib.hid (show ∀ W : World, Chg No wr W → (fun W => (W.cell? ⟨b3, 0, none⟩ = some (.slice (some ⟨bL, oL, none⟩) nL cL) ∧ W.cell? ⟨bL, oL + i * 3 + 2, none⟩ = some (.slice Asi ns csi)) ∧ (W.cell? ⟨bE, oE + k * 6 + 1, none⟩ = some (.int .i64 y1) ∧ W.cell? ⟨bE, oE + k * 6 + 2, none⟩ = some (.slice Cc y2.length cc)) ∧ Chg No wr W) W from fun W hW => ⟨⟨hW.cell a0 (not_no _), hW.cell e2 (not_no _)⟩, ⟨hW.cell g1 (not_no _), hW.cell g2 (not_no _)⟩, hW⟩)
      have Hnext := Lib.hid (show bd (y0, y1, y2, yr) = false → ∀ e ∈ l.take (k + 1), bd e = false from fun h e he => by
        rw [Htk.out] at he
        rcases List.mem_append.1 he with he | he
        · exact Hall.out e he
        · rw [List.mem_singleton.1 he]; exact h)
      by_cases hy : y1 = 1
      focus
        have k0 : (y1 == 1) = true := by rw [hy]; rfl
        have Hy := Lib.hid hy
        clear hy
        by_cases hyn : y2.length = ns
        focus
          have Hgo := Lib.hid (Hnext.out (by rw [Hb1.out, decide_eq_true hyn]; simp))
          have k1 : ((y2.length : Int) == ns) = true := by rw [hyn]; simp
          have k2 : (y2.length == ns) = true := by rw [hyn]; simp
          clear hyn
          go_wp2_with (with_reducible first | refine stop_append ?_ | refine stop_copy ?_ | refine stop_make ?_ | refine stop_lookup ?_ | refine stop_update ?_ | refine stop_slice ?_ | refine stop_range ?_ | refine stop_next ?_ | refine stop_convert ⟨_, rfl⟩ ?_ | refine stop_convertB ⟨_, _, _, rfl⟩ ?_ | refine stop_eqSlice ⟨_, _, rfl⟩ ?_)
          refine pl_start (fun W => (W.cell? ⟨b3, 0, none⟩ = some (.slice (some ⟨bL, oL, none⟩) nL cL) ∧ W.cell? ⟨bL, oL + i * 3 + 2, none⟩ = some (.slice Asi ns csi)) ∧ (W.cell? ⟨bE, oE + k * 6 + 1, none⟩ = some (.int .i64 y1) ∧ W.cell? ⟨bE, oE + k * 6 + 2, none⟩ = some (.slice Cc y2.length cc)) ∧ Chg No wr W) (by kernel_rfl) (by kernel_rfl) (HS.out _ cd) ?_
          ((refine pl_yes (i := 0) (oi := { dst := some 43, op := .move (.tmp 2), type := 22, pos := "ref.go:35", after := #[], guard := none }) (v := ?_) rfl (by kernel_rfl) (by kernel_rfl) rfl ?_ ?_); rotate_left; focus (intro W hW; (try dsimp only at hW); go_split_ands; go_simp; (try (simp (disch := omega) only [IntWalk.i64_in]; (try go_simp))); (try (split; (next => omega); (try go_simp))); try rfl; done))
          try simp only [Act.put, List.setIfInBounds_toArray, List.set_cons_zero, List.set_cons_succ]
          ((refine pl_yes (i := 1) (oi := { dst := some 44, op := .move (.tmp 10), type := 3, pos := "ref.go:35", after := #[], guard := none }) (v := ?_) rfl (by kernel_rfl) (by kernel_rfl) rfl ?_ ?_); rotate_left; focus (intro W hW; (try dsimp only at hW); go_split_ands; go_simp; (try (simp (disch := omega) only [IntWalk.i64_in]; (try go_simp))); (try (split; (next => omega); (try go_simp))); try rfl; done))
          try simp only [Act.put, List.setIfInBounds_toArray, List.set_cons_zero, List.set_cons_succ]
          ((refine pl_yes (i := 2) (oi := { dst := some 45, op := .indexAddr 22 (.tmp 43) (.tmp 44), type := 0, pos := "ref.go:35", after := #[{ on := 0, ground := .data }, { on := 1, ground := .data }], guard := none }) (v := ?_) rfl (by kernel_rfl) (by kernel_rfl) rfl ?_ ?_); rotate_left; focus (intro W hW; (try dsimp only at hW); go_split_ands; go_simp; (try (simp (disch := omega) only [IntWalk.i64_in]; (try go_simp))); (try (split; (next => omega); (try go_simp))); try rfl; done))
          try simp only [Act.put, List.setIfInBounds_toArray, List.set_cons_zero, List.set_cons_succ]
          ((refine pl_yes (i := 3) (oi := { dst := some 46, op := .fieldAddr 52 (.tmp 45) 1, type := 0, pos := "ref.go:35", after := #[{ on := 2, ground := .data }], guard := none }) (v := ?_) rfl (by kernel_rfl) (by kernel_rfl) rfl ?_ ?_); rotate_left; focus (intro W hW; (try dsimp only at hW); go_split_ands; go_simp; (try (simp (disch := omega) only [IntWalk.i64_in]; (try go_simp))); (try (split; (next => omega); (try go_simp))); try rfl; done))
          try simp only [Act.put, List.setIfInBounds_toArray, List.set_cons_zero, List.set_cons_succ]
          ((refine pl_yes (i := 4) (oi := { dst := some 47, op := .load 3 (.tmp 46), type := 3, pos := "ref.go:35", after := #[{ on := 3, ground := .data }], guard := none }) (v := ?_) rfl (by kernel_rfl) (by kernel_rfl) rfl ?_ ?_); rotate_left; focus (intro W hW; (try dsimp only at hW); go_split_ands; go_simp; (try (simp (disch := omega) only [IntWalk.i64_in]; (try go_simp))); (try (split; (next => omega); (try go_simp))); try rfl; done))
          try simp only [Act.put, List.setIfInBounds_toArray, List.set_cons_zero, List.set_cons_succ]
          ((refine pl_yes (i := 5) (oi := { dst := some 48, op := .binOp .eql 3 (.tmp 47) (.const (.int .i64 1)) 3, type := 4, pos := "ref.go:35", after := #[{ on := 4, ground := .data }], guard := none }) (v := ?_) rfl (by kernel_rfl) (by kernel_rfl) rfl ?_ ?_); rotate_left; focus (intro W hW; (try dsimp only at hW); go_split_ands; go_simp; (try (simp (disch := omega) only [IntWalk.i64_in]; (try go_simp))); (try (split; (next => omega); (try go_simp))); try rfl; done))
          try simp only [Act.put, List.setIfInBounds_toArray, List.set_cons_zero, List.set_cons_succ]
          ((refine pl_yes (i := 6) (oi := { dst := some 49, op := .move (.tmp 48), type := 4, pos := "ref.go:35", after := #[{ on := 5, ground := .data }], guard := none }) (v := ?_) rfl (by kernel_rfl) (by kernel_rfl) rfl ?_ ?_); rotate_left; focus (intro W hW; (try dsimp only at hW); go_split_ands; go_simp; (try (simp (disch := omega) only [IntWalk.i64_in]; (try go_simp))); (try (split; (next => omega); (try go_simp))); try rfl; done))
          try simp only [Act.put, List.setIfInBounds_toArray, List.set_cons_zero, List.set_cons_succ]
          first | (refine pl_no (i := 7) (oi := { dst := some 50, op := .move (.tmp 2), type := 22, pos := "ref.go:35", after := #[{ on := 6, ground := .guard }], guard := some (6, true) }) rfl (by kernel_rfl) (by kernel_rfl) rfl ?_) | ((refine pl_yes (i := 7) (oi := { dst := some 50, op := .move (.tmp 2), type := 22, pos := "ref.go:35", after := #[{ on := 6, ground := .guard }], guard := some (6, true) }) (v := ?_) rfl (by kernel_rfl) (by kernel_rfl) rfl ?_ ?_); rotate_left; focus (intro W hW; (try dsimp only at hW); go_split_ands; go_simp; (try (simp (disch := omega) only [IntWalk.i64_in]; (try go_simp))); (try (split; (next => omega); (try go_simp))); try rfl; done))
          try simp only [Act.put, List.setIfInBounds_toArray, List.set_cons_zero, List.set_cons_succ]
          first | (refine pl_no (i := 8) (oi := { dst := some 51, op := .move (.tmp 10), type := 3, pos := "ref.go:35", after := #[{ on := 6, ground := .guard }], guard := some (6, true) }) rfl (by kernel_rfl) (by kernel_rfl) rfl ?_) | ((refine pl_yes (i := 8) (oi := { dst := some 51, op := .move (.tmp 10), type := 3, pos := "ref.go:35", after := #[{ on := 6, ground := .guard }], guard := some (6, true) }) (v := ?_) rfl (by kernel_rfl) (by kernel_rfl) rfl ?_ ?_); rotate_left; focus (intro W hW; (try dsimp only at hW); go_split_ands; go_simp; (try (simp (disch := omega) only [IntWalk.i64_in]; (try go_simp))); (try (split; (next => omega); (try go_simp))); try rfl; done))
          try simp only [Act.put, List.setIfInBounds_toArray, List.set_cons_zero, List.set_cons_succ]
          first | (refine pl_no (i := 9) (oi := { dst := some 52, op := .indexAddr 22 (.tmp 50) (.tmp 51), type := 0, pos := "ref.go:35", after := #[{ on := 7, ground := .data }, { on := 8, ground := .data }, { on := 6, ground := .guard }], guard := some (6, true) }) rfl (by kernel_rfl) (by kernel_rfl) rfl ?_) | ((refine pl_yes (i := 9) (oi := { dst := some 52, op := .indexAddr 22 (.tmp 50) (.tmp 51), type := 0, pos := "ref.go:35", after := #[{ on := 7, ground := .data }, { on := 8, ground := .data }, { on := 6, ground := .guard }], guard := some (6, true) }) (v := ?_) rfl (by kernel_rfl) (by kernel_rfl) rfl ?_ ?_); rotate_left; focus (intro W hW; (try dsimp only at hW); go_split_ands; go_simp; (try (simp (disch := omega) only [IntWalk.i64_in]; (try go_simp))); (try (split; (next => omega); (try go_simp))); try rfl; done))
          try simp only [Act.put, List.setIfInBounds_toArray, List.set_cons_zero, List.set_cons_succ]
          first | (refine pl_no (i := 10) (oi := { dst := some 53, op := .fieldAddr 52 (.tmp 52) 2, type := 0, pos := "ref.go:35", after := #[{ on := 9, ground := .data }, { on := 6, ground := .guard }], guard := some (6, true) }) rfl (by kernel_rfl) (by kernel_rfl) rfl ?_) | ((refine pl_yes (i := 10) (oi := { dst := some 53, op := .fieldAddr 52 (.tmp 52) 2, type := 0, pos := "ref.go:35", after := #[{ on := 9, ground := .data }, { on := 6, ground := .guard }], guard := some (6, true) }) (v := ?_) rfl (by kernel_rfl) (by kernel_rfl) rfl ?_ ?_); rotate_left; focus (intro W hW; (try dsimp only at hW); go_split_ands; go_simp; (try (simp (disch := omega) only [IntWalk.i64_in]; (try go_simp))); (try (split; (next => omega); (try go_simp))); try rfl; done))
          try simp only [Act.put, List.setIfInBounds_toArray, List.set_cons_zero, List.set_cons_succ]
          first | (refine pl_no (i := 11) (oi := { dst := some 54, op := .load 46 (.tmp 53), type := 46, pos := "ref.go:35", after := #[{ on := 10, ground := .data }, { on := 6, ground := .guard }], guard := some (6, true) }) rfl (by kernel_rfl) (by kernel_rfl) rfl ?_) | ((refine pl_yes (i := 11) (oi := { dst := some 54, op := .load 46 (.tmp 53), type := 46, pos := "ref.go:35", after := #[{ on := 10, ground := .data }, { on := 6, ground := .guard }], guard := some (6, true) }) (v := ?_) rfl (by kernel_rfl) (by kernel_rfl) rfl ?_ ?_); rotate_left; focus (intro W hW; (try dsimp only at hW); go_split_ands; go_simp; (try (simp (disch := omega) only [IntWalk.i64_in]; (try go_simp))); (try (split; (next => omega); (try go_simp))); try rfl; done))
          try simp only [Act.put, List.setIfInBounds_toArray, List.set_cons_zero, List.set_cons_succ]
          first | (refine pl_no (i := 12) (oi := { dst := some 55, op := .call { callee := .builtin .len, args := #[.tmp 54], argTypes := #[46] }, type := 3, pos := "ref.go:35", after := #[{ on := 11, ground := .data }, { on := 6, ground := .guard }], guard := some (6, true) }) rfl (by kernel_rfl) (by kernel_rfl) rfl ?_) | ((refine pl_yes (i := 12) (oi := { dst := some 55, op := .call { callee := .builtin .len, args := #[.tmp 54], argTypes := #[46] }, type := 3, pos := "ref.go:35", after := #[{ on := 11, ground := .data }, { on := 6, ground := .guard }], guard := some (6, true) }) (v := ?_) rfl (by kernel_rfl) (by kernel_rfl) rfl ?_ ?_); rotate_left; focus (intro W hW; (try dsimp only at hW); go_split_ands; go_simp; (try (simp (disch := omega) only [IntWalk.i64_in]; (try go_simp))); (try (split; (next => omega); (try go_simp))); try rfl; done))
          try simp only [Act.put, List.setIfInBounds_toArray, List.set_cons_zero, List.set_cons_succ]
          first | (refine pl_no (i := 13) (oi := { dst := some 56, op := .fieldAddr 82 (.tmp 3) 0, type := 0, pos := "ref.go:35", after := #[{ on := 6, ground := .guard }], guard := some (6, true) }) rfl (by kernel_rfl) (by kernel_rfl) rfl ?_) | ((refine pl_yes (i := 13) (oi := { dst := some 56, op := .fieldAddr 82 (.tmp 3) 0, type := 0, pos := "ref.go:35", after := #[{ on := 6, ground := .guard }], guard := some (6, true) }) (v := ?_) rfl (by kernel_rfl) (by kernel_rfl) rfl ?_ ?_); rotate_left; focus (intro W hW; (try dsimp only at hW); go_split_ands; go_simp; (try (simp (disch := omega) only [IntWalk.i64_in]; (try go_simp))); (try (split; (next => omega); (try go_simp))); try rfl; done))
          try simp only [Act.put, List.setIfInBounds_toArray, List.set_cons_zero, List.set_cons_succ]
          first | (refine pl_no (i := 14) (oi := { dst := some 57, op := .load 79 (.tmp 56), type := 79, pos := "ref.go:35", after := #[{ on := 13, ground := .data }, { on := 6, ground := .guard }], guard := some (6, true) }) rfl (by kernel_rfl) (by kernel_rfl) rfl ?_) | ((refine pl_yes (i := 14) (oi := { dst := some 57, op := .load 79 (.tmp 56), type := 79, pos := "ref.go:35", after := #[{ on := 13, ground := .data }, { on := 6, ground := .guard }], guard := some (6, true) }) (v := ?_) rfl (by kernel_rfl) (by kernel_rfl) rfl ?_ ?_); rotate_left; focus (intro W hW; (try dsimp only at hW); go_split_ands; go_simp; (try (simp (disch := omega) only [IntWalk.i64_in]; (try go_simp))); (try (split; (next => omega); (try go_simp))); try rfl; done))
          try simp only [Act.put, List.setIfInBounds_toArray, List.set_cons_zero, List.set_cons_succ]
          first | (refine pl_no (i := 15) (oi := { dst := some 58, op := .move (.tmp 8), type := 3, pos := "ref.go:35", after := #[{ on := 6, ground := .guard }], guard := some (6, true) }) rfl (by kernel_rfl) (by kernel_rfl) rfl ?_) | ((refine pl_yes (i := 15) (oi := { dst := some 58, op := .move (.tmp 8), type := 3, pos := "ref.go:35", after := #[{ on := 6, ground := .guard }], guard := some (6, true) }) (v := ?_) rfl (by kernel_rfl) (by kernel_rfl) rfl ?_ ?_); rotate_left; focus (intro W hW; (try dsimp only at hW); go_split_ands; go_simp; (try (simp (disch := omega) only [IntWalk.i64_in]; (try go_simp))); (try (split; (next => omega); (try go_simp))); try rfl; done))
          try simp only [Act.put, List.setIfInBounds_toArray, List.set_cons_zero, List.set_cons_succ]
          first | (refine pl_no (i := 16) (oi := { dst := some 59, op := .indexAddr 79 (.tmp 57) (.tmp 58), type := 0, pos := "ref.go:35", after := #[{ on := 14, ground := .data }, { on := 15, ground := .data }, { on := 6, ground := .guard }], guard := some (6, true) }) rfl (by kernel_rfl) (by kernel_rfl) rfl ?_) | ((refine pl_yes (i := 16) (oi := { dst := some 59, op := .indexAddr 79 (.tmp 57) (.tmp 58), type := 0, pos := "ref.go:35", after := #[{ on := 14, ground := .data }, { on := 15, ground := .data }, { on := 6, ground := .guard }], guard := some (6, true) }) (v := ?_) rfl (by kernel_rfl) (by kernel_rfl) rfl ?_ ?_); rotate_left; focus (intro W hW; (try dsimp only at hW); go_split_ands; go_simp; (try (simp (disch := omega) only [IntWalk.i64_in]; (try go_simp))); (try (split; (next => omega); (try go_simp))); try rfl; done))
          try simp only [Act.put, List.setIfInBounds_toArray, List.set_cons_zero, List.set_cons_succ]
          first | (refine pl_no (i := 17) (oi := { dst := some 60, op := .fieldAddr 63 (.tmp 59) 2, type := 0, pos := "ref.go:35", after := #[{ on := 16, ground := .data }, { on := 6, ground := .guard }], guard := some (6, true) }) rfl (by kernel_rfl) (by kernel_rfl) rfl ?_) | ((refine pl_yes (i := 17) (oi := { dst := some 60, op := .fieldAddr 63 (.tmp 59) 2, type := 0, pos := "ref.go:35", after := #[{ on := 16, ground := .data }, { on := 6, ground := .guard }], guard := some (6, true) }) (v := ?_) rfl (by kernel_rfl) (by kernel_rfl) rfl ?_ ?_); rotate_left; focus (intro W hW; (try dsimp only at hW); go_split_ands; go_simp; (try (simp (disch := omega) only [IntWalk.i64_in]; (try go_simp))); (try (split; (next => omega); (try go_simp))); try rfl; done))
          try simp only [Act.put, List.setIfInBounds_toArray, List.set_cons_zero, List.set_cons_succ]
          first | (refine pl_no (i := 18) (oi := { dst := some 61, op := .load 61 (.tmp 60), type := 61, pos := "ref.go:35", after := #[{ on := 17, ground := .data }, { on := 6, ground := .guard }], guard := some (6, true) }) rfl (by kernel_rfl) (by kernel_rfl) rfl ?_) | ((refine pl_yes (i := 18) (oi := { dst := some 61, op := .load 61 (.tmp 60), type := 61, pos := "ref.go:35", after := #[{ on := 17, ground := .data }, { on := 6, ground := .guard }], guard := some (6, true) }) (v := ?_) rfl (by kernel_rfl) (by kernel_rfl) rfl ?_ ?_); rotate_left; focus (intro W hW; (try dsimp only at hW); go_split_ands; go_simp; (try (simp (disch := omega) only [IntWalk.i64_in]; (try go_simp))); (try (split; (next => omega); (try go_simp))); try rfl; done))
          try simp only [Act.put, List.setIfInBounds_toArray, List.set_cons_zero, List.set_cons_succ]
          first | (refine pl_no (i := 19) (oi := { dst := some 62, op := .call { callee := .builtin .len, args := #[.tmp 61], argTypes := #[61] }, type := 3, pos := "ref.go:35", after := #[{ on := 18, ground := .data }, { on := 6, ground := .guard }], guard := some (6, true) }) rfl (by kernel_rfl) (by kernel_rfl) rfl ?_) | ((refine pl_yes (i := 19) (oi := { dst := some 62, op := .call { callee := .builtin .len, args := #[.tmp 61], argTypes := #[61] }, type := 3, pos := "ref.go:35", after := #[{ on := 18, ground := .data }, { on := 6, ground := .guard }], guard := some (6, true) }) (v := ?_) rfl (by kernel_rfl) (by kernel_rfl) rfl ?_ ?_); rotate_left; focus (intro W hW; (try dsimp only at hW); go_split_ands; go_simp; (try (simp (disch := omega) only [IntWalk.i64_in]; (try go_simp))); (try (split; (next => omega); (try go_simp))); try rfl; done))
          try simp only [Act.put, List.setIfInBounds_toArray, List.set_cons_zero, List.set_cons_succ]
          first | (refine pl_no (i := 20) (oi := { dst := some 63, op := .binOp .neq 3 (.tmp 55) (.tmp 62) 3, type := 4, pos := "ref.go:35", after := #[{ on := 12, ground := .data }, { on := 19, ground := .data }, { on := 6, ground := .guard }], guard := some (6, true) }) rfl (by kernel_rfl) (by kernel_rfl) rfl ?_) | ((refine pl_yes (i := 20) (oi := { dst := some 63, op := .binOp .neq 3 (.tmp 55) (.tmp 62) 3, type := 4, pos := "ref.go:35", after := #[{ on := 12, ground := .data }, { on := 19, ground := .data }, { on := 6, ground := .guard }], guard := some (6, true) }) (v := ?_) rfl (by kernel_rfl) (by kernel_rfl) rfl ?_ ?_); rotate_left; focus (intro W hW; (try dsimp only at hW); go_split_ands; go_simp; (try (simp (disch := omega) only [IntWalk.i64_in]; (try go_simp))); (try (split; (next => omega); (try go_simp))); try rfl; done))
          try simp only [Act.put, List.setIfInBounds_toArray, List.set_cons_zero, List.set_cons_succ]
          ((refine pl_yes (i := 21) (oi := { dst := some 64, op := .pick (.tmp 49) (.tmp 63) (.const (.bool false)), type := 4, pos := "ref.go:35", after := #[{ on := 6, ground := .data }, { on := 20, ground := .data }], guard := none }) (v := ?_) rfl (by kernel_rfl) (by kernel_rfl) rfl ?_ ?_); rotate_left; focus (intro W hW; (try dsimp only at hW); go_split_ands; go_simp; (try (simp (disch := omega) only [IntWalk.i64_in]; (try go_simp))); (try (split; (next => omega); (try go_simp))); try rfl; done))
          try simp only [Act.put, List.setIfInBounds_toArray, List.set_cons_zero, List.set_cons_succ]
          refine pl_done (by kernel_rfl)  ?_
          rintro w5 ⟨-, -, hc5⟩
          have hc45 := hc.trans hc5
          go_wp2_with (with_reducible first | refine stop_append ?_ | refine stop_copy ?_ | refine stop_make ?_ | refine stop_lookup ?_ | refine stop_update ?_ | refine stop_slice ?_ | refine stop_range ?_ | refine stop_next ?_ | refine stop_convert ⟨_, rfl⟩ ?_ | refine stop_convertB ⟨_, _, _, rfl⟩ ?_ | refine stop_eqSlice ⟨_, _, rfl⟩ ?_)
          go_roundw
          case rel => exact ⟨k + 1, by omega, by go_num, hc45, Hgo.out⟩
          case measure => simp [intOf]; omega
        focus
          have Hbad := Lib.hid (Hfit3.out _ Hmem.out (by rw [Hb1.out, decide_eq_false hyn, Hy.out]; simp))
          have k1 : ((y2.length : Int) == ns) = false := beq_false_of_ne (by omega)
          have k2 : (y2.length == ns) = false := beq_false_of_ne hyn
          clear hyn
          go_wp2_with (with_reducible first | refine stop_append ?_ | refine stop_copy ?_ | refine stop_make ?_ | refine stop_lookup ?_ | refine stop_update ?_ | refine stop_slice ?_ | refine stop_range ?_ | refine stop_next ?_ | refine stop_convert ⟨_, rfl⟩ ?_ | refine stop_convertB ⟨_, _, _, rfl⟩ ?_ | refine stop_eqSlice ⟨_, _, rfl⟩ ?_)
          refine pl_start (fun W => (W.cell? ⟨b3, 0, none⟩ = some (.slice (some ⟨bL, oL, none⟩) nL cL) ∧ W.cell? ⟨bL, oL + i * 3 + 2, none⟩ = some (.slice Asi ns csi)) ∧ (W.cell? ⟨bE, oE + k * 6 + 1, none⟩ = some (.int .i64 y1) ∧ W.cell? ⟨bE, oE + k * 6 + 2, none⟩ = some (.slice Cc y2.length cc)) ∧ Chg No wr W) (by kernel_rfl) (by kernel_rfl) (HS.out _ cd) ?_
          ((refine pl_yes (i := 0) (oi := { dst := some 43, op := .move (.tmp 2), type := 22, pos := "ref.go:35", after := #[], guard := none }) (v := ?_) rfl (by kernel_rfl) (by kernel_rfl) rfl ?_ ?_); rotate_left; focus (intro W hW; (try dsimp only at hW); go_split_ands; go_simp; (try (simp (disch := omega) only [IntWalk.i64_in]; (try go_simp))); (try (split; (next => omega); (try go_simp))); try rfl; done))
          try simp only [Act.put, List.setIfInBounds_toArray, List.set_cons_zero, List.set_cons_succ]
          ((refine pl_yes (i := 1) (oi := { dst := some 44, op := .move (.tmp 10), type := 3, pos := "ref.go:35", after := #[], guard := none }) (v := ?_) rfl (by kernel_rfl) (by kernel_rfl) rfl ?_ ?_); rotate_left; focus (intro W hW; (try dsimp only at hW); go_split_ands; go_simp; (try (simp (disch := omega) only [IntWalk.i64_in]; (try go_simp))); (try (split; (next => omega); (try go_simp))); try rfl; done))
          try simp only [Act.put, List.setIfInBounds_toArray, List.set_cons_zero, List.set_cons_succ]
          ((refine pl_yes (i := 2) (oi := { dst := some 45, op := .indexAddr 22 (.tmp 43) (.tmp 44), type := 0, pos := "ref.go:35", after := #[{ on := 0, ground := .data }, { on := 1, ground := .data }], guard := none }) (v := ?_) rfl (by kernel_rfl) (by kernel_rfl) rfl ?_ ?_); rotate_left; focus (intro W hW; (try dsimp only at hW); go_split_ands; go_simp; (try (simp (disch := omega) only [IntWalk.i64_in]; (try go_simp))); (try (split; (next => omega); (try go_simp))); try rfl; done))
          try simp only [Act.put, List.setIfInBounds_toArray, List.set_cons_zero, List.set_cons_succ]
          ((refine pl_yes (i := 3) (oi := { dst := some 46, op := .fieldAddr 52 (.tmp 45) 1, type := 0, pos := "ref.go:35", after := #[{ on := 2, ground := .data }], guard := none }) (v := ?_) rfl (by kernel_rfl) (by kernel_rfl) rfl ?_ ?_); rotate_left; focus (intro W hW; (try dsimp only at hW); go_split_ands; go_simp; (try (simp (disch := omega) only [IntWalk.i64_in]; (try go_simp))); (try (split; (next => omega); (try go_simp))); try rfl; done))
          try simp only [Act.put, List.setIfInBounds_toArray, List.set_cons_zero, List.set_cons_succ]
          ((refine pl_yes (i := 4) (oi := { dst := some 47, op := .load 3 (.tmp 46), type := 3, pos := "ref.go:35", after := #[{ on := 3, ground := .data }], guard := none }) (v := ?_) rfl (by kernel_rfl) (by kernel_rfl) rfl ?_ ?_); rotate_left; focus (intro W hW; (try dsimp only at hW); go_split_ands; go_simp; (try (simp (disch := omega) only [IntWalk.i64_in]; (try go_simp))); (try (split; (next => omega); (try go_simp))); try rfl; done))
          try simp only [Act.put, List.setIfInBounds_toArray, List.set_cons_zero, List.set_cons_succ]
          ((refine pl_yes (i := 5) (oi := { dst := some 48, op := .binOp .eql 3 (.tmp 47) (.const (.int .i64 1)) 3, type := 4, pos := "ref.go:35", after := #[{ on := 4, ground := .data }], guard := none }) (v := ?_) rfl (by kernel_rfl) (by kernel_rfl) rfl ?_ ?_); rotate_left; focus (intro W hW; (try dsimp only at hW); go_split_ands; go_simp; (try (simp (disch := omega) only [IntWalk.i64_in]; (try go_simp))); (try (split; (next => omega); (try go_simp))); try rfl; done))
          try simp only [Act.put, List.setIfInBounds_toArray, List.set_cons_zero, List.set_cons_succ]
          ((refine pl_yes (i := 6) (oi := { dst := some 49, op := .move (.tmp 48), type := 4, pos := "ref.go:35", after := #[{ on := 5, ground := .data }], guard := none }) (v := ?_) rfl (by kernel_rfl) (by kernel_rfl) rfl ?_ ?_); rotate_left; focus (intro W hW; (try dsimp only at hW); go_split_ands; go_simp; (try (simp (disch := omega) only [IntWalk.i64_in]; (try go_simp))); (try (split; (next => omega); (try go_simp))); try rfl; done))
          try simp only [Act.put, List.setIfInBounds_toArray, List.set_cons_zero, List.set_cons_succ]
          first | (refine pl_no (i := 7) (oi := { dst := some 50, op := .move (.tmp 2), type := 22, pos := "ref.go:35", after := #[{ on := 6, ground := .guard }], guard := some (6, true) }) rfl (by kernel_rfl) (by kernel_rfl) rfl ?_) | ((refine pl_yes (i := 7) (oi := { dst := some 50, op := .move (.tmp 2), type := 22, pos := "ref.go:35", after := #[{ on := 6, ground := .guard }], guard := some (6, true) }) (v := ?_) rfl (by kernel_rfl) (by kernel_rfl) rfl ?_ ?_); rotate_left; focus (intro W hW; (try dsimp only at hW); go_split_ands; go_simp; (try (simp (disch := omega) only [IntWalk.i64_in]; (try go_simp))); (try (split; (next => omega); (try go_simp))); try rfl; done))
          try simp only [Act.put, List.setIfInBounds_toArray, List.set_cons_zero, List.set_cons_succ]
          first | (refine pl_no (i := 8) (oi := { dst := some 51, op := .move (.tmp 10), type := 3, pos := "ref.go:35", after := #[{ on := 6, ground := .guard }], guard := some (6, true) }) rfl (by kernel_rfl) (by kernel_rfl) rfl ?_) | ((refine pl_yes (i := 8) (oi := { dst := some 51, op := .move (.tmp 10), type := 3, pos := "ref.go:35", after := #[{ on := 6, ground := .guard }], guard := some (6, true) }) (v := ?_) rfl (by kernel_rfl) (by kernel_rfl) rfl ?_ ?_); rotate_left; focus (intro W hW; (try dsimp only at hW); go_split_ands; go_simp; (try (simp (disch := omega) only [IntWalk.i64_in]; (try go_simp))); (try (split; (next => omega); (try go_simp))); try rfl; done))
          try simp only [Act.put, List.setIfInBounds_toArray, List.set_cons_zero, List.set_cons_succ]
          first | (refine pl_no (i := 9) (oi := { dst := some 52, op := .indexAddr 22 (.tmp 50) (.tmp 51), type := 0, pos := "ref.go:35", after := #[{ on := 7, ground := .data }, { on := 8, ground := .data }, { on := 6, ground := .guard }], guard := some (6, true) }) rfl (by kernel_rfl) (by kernel_rfl) rfl ?_) | ((refine pl_yes (i := 9) (oi := { dst := some 52, op := .indexAddr 22 (.tmp 50) (.tmp 51), type := 0, pos := "ref.go:35", after := #[{ on := 7, ground := .data }, { on := 8, ground := .data }, { on := 6, ground := .guard }], guard := some (6, true) }) (v := ?_) rfl (by kernel_rfl) (by kernel_rfl) rfl ?_ ?_); rotate_left; focus (intro W hW; (try dsimp only at hW); go_split_ands; go_simp; (try (simp (disch := omega) only [IntWalk.i64_in]; (try go_simp))); (try (split; (next => omega); (try go_simp))); try rfl; done))
          try simp only [Act.put, List.setIfInBounds_toArray, List.set_cons_zero, List.set_cons_succ]
          first | (refine pl_no (i := 10) (oi := { dst := some 53, op := .fieldAddr 52 (.tmp 52) 2, type := 0, pos := "ref.go:35", after := #[{ on := 9, ground := .data }, { on := 6, ground := .guard }], guard := some (6, true) }) rfl (by kernel_rfl) (by kernel_rfl) rfl ?_) | ((refine pl_yes (i := 10) (oi := { dst := some 53, op := .fieldAddr 52 (.tmp 52) 2, type := 0, pos := "ref.go:35", after := #[{ on := 9, ground := .data }, { on := 6, ground := .guard }], guard := some (6, true) }) (v := ?_) rfl (by kernel_rfl) (by kernel_rfl) rfl ?_ ?_); rotate_left; focus (intro W hW; (try dsimp only at hW); go_split_ands; go_simp; (try (simp (disch := omega) only [IntWalk.i64_in]; (try go_simp))); (try (split; (next => omega); (try go_simp))); try rfl; done))
          try simp only [Act.put, List.setIfInBounds_toArray, List.set_cons_zero, List.set_cons_succ]
          first | (refine pl_no (i := 11) (oi := { dst := some 54, op := .load 46 (.tmp 53), type := 46, pos := "ref.go:35", after := #[{ on := 10, ground := .data }, { on := 6, ground := .guard }], guard := some (6, true) }) rfl (by kernel_rfl) (by kernel_rfl) rfl ?_) | ((refine pl_yes (i := 11) (oi := { dst := some 54, op := .load 46 (.tmp 53), type := 46, pos := "ref.go:35", after := #[{ on := 10, ground := .data }, { on := 6, ground := .guard }], guard := some (6, true) }) (v := ?_) rfl (by kernel_rfl) (by kernel_rfl) rfl ?_ ?_); rotate_left; focus (intro W hW; (try dsimp only at hW); go_split_ands; go_simp; (try (simp (disch := omega) only [IntWalk.i64_in]; (try go_simp))); (try (split; (next => omega); (try go_simp))); try rfl; done))
          try simp only [Act.put, List.setIfInBounds_toArray, List.set_cons_zero, List.set_cons_succ]
          first | (refine pl_no (i := 12) (oi := { dst := some 55, op := .call { callee := .builtin .len, args := #[.tmp 54], argTypes := #[46] }, type := 3, pos := "ref.go:35", after := #[{ on := 11, ground := .data }, { on := 6, ground := .guard }], guard := some (6, true) }) rfl (by kernel_rfl) (by kernel_rfl) rfl ?_) | ((refine pl_yes (i := 12) (oi := { dst := some 55, op := .call { callee := .builtin .len, args := #[.tmp 54], argTypes := #[46] }, type := 3, pos := "ref.go:35", after := #[{ on := 11, ground := .data }, { on := 6, ground := .guard }], guard := some (6, true) }) (v := ?_) rfl (by kernel_rfl) (by kernel_rfl) rfl ?_ ?_); rotate_left; focus (intro W hW; (try dsimp only at hW); go_split_ands; go_simp; (try (simp (disch := omega) only [IntWalk.i64_in]; (try go_simp))); (try (split; (next => omega); (try go_simp))); try rfl; done))
          try simp only [Act.put, List.setIfInBounds_toArray, List.set_cons_zero, List.set_cons_succ]
          first | (refine pl_no (i := 13) (oi := { dst := some 56, op := .fieldAddr 82 (.tmp 3) 0, type := 0, pos := "ref.go:35", after := #[{ on := 6, ground := .guard }], guard := some (6, true) }) rfl (by kernel_rfl) (by kernel_rfl) rfl ?_) | ((refine pl_yes (i := 13) (oi := { dst := some 56, op := .fieldAddr 82 (.tmp 3) 0, type := 0, pos := "ref.go:35", after := #[{ on := 6, ground := .guard }], guard := some (6, true) }) (v := ?_) rfl (by kernel_rfl) (by kernel_rfl) rfl ?_ ?_); rotate_left; focus (intro W hW; (try dsimp only at hW); go_split_ands; go_simp; (try (simp (disch := omega) only [IntWalk.i64_in]; (try go_simp))); (try (split; (next => omega); (try go_simp))); try rfl; done))
          try simp only [Act.put, List.setIfInBounds_toArray, List.set_cons_zero, List.set_cons_succ]
          first | (refine pl_no (i := 14) (oi := { dst := some 57, op := .load 79 (.tmp 56), type := 79, pos := "ref.go:35", after := #[{ on := 13, ground := .data }, { on := 6, ground := .guard }], guard := some (6, true) }) rfl (by kernel_rfl) (by kernel_rfl) rfl ?_) | ((refine pl_yes (i := 14) (oi := { dst := some 57, op := .load 79 (.tmp 56), type := 79, pos := "ref.go:35", after := #[{ on := 13, ground := .data }, { on := 6, ground := .guard }], guard := some (6, true) }) (v := ?_) rfl (by kernel_rfl) (by kernel_rfl) rfl ?_ ?_); rotate_left; focus (intro W hW; (try dsimp only at hW); go_split_ands; go_simp; (try (simp (disch := omega) only [IntWalk.i64_in]; (try go_simp))); (try (split; (next => omega); (try go_simp))); try rfl; done))
          try simp only [Act.put, List.setIfInBounds_toArray, List.set_cons_zero, List.set_cons_succ]
          first | (refine pl_no (i := 15) (oi := { dst := some 58, op := .move (.tmp 8), type := 3, pos := "ref.go:35", after := #[{ on := 6, ground := .guard }], guard := some (6, true) }) rfl (by kernel_rfl) (by kernel_rfl) rfl ?_) | ((refine pl_yes (i := 15) (oi := { dst := some 58, op := .move (.tmp 8), type := 3, pos := "ref.go:35", after := #[{ on := 6, ground := .guard }], guard := some (6, true) }) (v := ?_) rfl (by kernel_rfl) (by kernel_rfl) rfl ?_ ?_); rotate_left; focus (intro W hW; (try dsimp only at hW); go_split_ands; go_simp; (try (simp (disch := omega) only [IntWalk.i64_in]; (try go_simp))); (try (split; (next => omega); (try go_simp))); try rfl; done))
          try simp only [Act.put, List.setIfInBounds_toArray, List.set_cons_zero, List.set_cons_succ]
          first | (refine pl_no (i := 16) (oi := { dst := some 59, op := .indexAddr 79 (.tmp 57) (.tmp 58), type := 0, pos := "ref.go:35", after := #[{ on := 14, ground := .data }, { on := 15, ground := .data }, { on := 6, ground := .guard }], guard := some (6, true) }) rfl (by kernel_rfl) (by kernel_rfl) rfl ?_) | ((refine pl_yes (i := 16) (oi := { dst := some 59, op := .indexAddr 79 (.tmp 57) (.tmp 58), type := 0, pos := "ref.go:35", after := #[{ on := 14, ground := .data }, { on := 15, ground := .data }, { on := 6, ground := .guard }], guard := some (6, true) }) (v := ?_) rfl (by kernel_rfl) (by kernel_rfl) rfl ?_ ?_); rotate_left; focus (intro W hW; (try dsimp only at hW); go_split_ands; go_simp; (try (simp (disch := omega) only [IntWalk.i64_in]; (try go_simp))); (try (split; (next => omega); (try go_simp))); try rfl; done))
          try simp only [Act.put, List.setIfInBounds_toArray, List.set_cons_zero, List.set_cons_succ]
          first | (refine pl_no (i := 17) (oi := { dst := some 60, op := .fieldAddr 63 (.tmp 59) 2, type := 0, pos := "ref.go:35", after := #[{ on := 16, ground := .data }, { on := 6, ground := .guard }], guard := some (6, true) }) rfl (by kernel_rfl) (by kernel_rfl) rfl ?_) | ((refine pl_yes (i := 17) (oi := { dst := some 60, op := .fieldAddr 63 (.tmp 59) 2, type := 0, pos := "ref.go:35", after := #[{ on := 16, ground := .data }, { on := 6, ground := .guard }], guard := some (6, true) }) (v := ?_) rfl (by kernel_rfl) (by kernel_rfl) rfl ?_ ?_); rotate_left; focus (intro W hW; (try dsimp only at hW); go_split_ands; go_simp; (try (simp (disch := omega) only [IntWalk.i64_in]; (try go_simp))); (try (split; (next => omega); (try go_simp))); try rfl; done))
          try simp only [Act.put, List.setIfInBounds_toArray, List.set_cons_zero, List.set_cons_succ]
          first | (refine pl_no (i := 18) (oi := { dst := some 61, op := .load 61 (.tmp 60), type := 61, pos := "ref.go:35", after := #[{ on := 17, ground := .data }, { on := 6, ground := .guard }], guard := some (6, true) }) rfl (by kernel_rfl) (by kernel_rfl) rfl ?_) | ((refine pl_yes (i := 18) (oi := { dst := some 61, op := .load 61 (.tmp 60), type := 61, pos := "ref.go:35", after := #[{ on := 17, ground := .data }, { on := 6, ground := .guard }], guard := some (6, true) }) (v := ?_) rfl (by kernel_rfl) (by kernel_rfl) rfl ?_ ?_); rotate_left; focus (intro W hW; (try dsimp only at hW); go_split_ands; go_simp; (try (simp (disch := omega) only [IntWalk.i64_in]; (try go_simp))); (try (split; (next => omega); (try go_simp))); try rfl; done))
          try simp only [Act.put, List.setIfInBounds_toArray, List.set_cons_zero, List.set_cons_succ]
          first | (refine pl_no (i := 19) (oi := { dst := some 62, op := .call { callee := .builtin .len, args := #[.tmp 61], argTypes := #[61] }, type := 3, pos := "ref.go:35", after := #[{ on := 18, ground := .data }, { on := 6, ground := .guard }], guard := some (6, true) }) rfl (by kernel_rfl) (by kernel_rfl) rfl ?_) | ((refine pl_yes (i := 19) (oi := { dst := some 62, op := .call { callee := .builtin .len, args := #[.tmp 61], argTypes := #[61] }, type := 3, pos := "ref.go:35", after := #[{ on := 18, ground := .data }, { on := 6, ground := .guard }], guard := some (6, true) }) (v := ?_) rfl (by kernel_rfl) (by kernel_rfl) rfl ?_ ?_); rotate_left; focus (intro W hW; (try dsimp only at hW); go_split_ands; go_simp; (try (simp (disch := omega) only [IntWalk.i64_in]; (try go_simp))); (try (split; (next => omega); (try go_simp))); try rfl; done))
          try simp only [Act.put, List.setIfInBounds_toArray, List.set_cons_zero, List.set_cons_succ]
          first | (refine pl_no (i := 20) (oi := { dst := some 63, op := .binOp .neq 3 (.tmp 55) (.tmp 62) 3, type := 4, pos := "ref.go:35", after := #[{ on := 12, ground := .data }, { on := 19, ground := .data }, { on := 6, ground := .guard }], guard := some (6, true) }) rfl (by kernel_rfl) (by kernel_rfl) rfl ?_) | ((refine pl_yes (i := 20) (oi := { dst := some 63, op := .binOp .neq 3 (.tmp 55) (.tmp 62) 3, type := 4, pos := "ref.go:35", after := #[{ on := 12, ground := .data }, { on := 19, ground := .data }, { on := 6, ground := .guard }], guard := some (6, true) }) (v := ?_) rfl (by kernel_rfl) (by kernel_rfl) rfl ?_ ?_); rotate_left; focus (intro W hW; (try dsimp only at hW); go_split_ands; go_simp; (try (simp (disch := omega) only [IntWalk.i64_in]; (try go_simp))); (try (split; (next => omega); (try go_simp))); try rfl; done))
          try simp only [Act.put, List.setIfInBounds_toArray, List.set_cons_zero, List.set_cons_succ]
          ((refine pl_yes (i := 21) (oi := { dst := some 64, op := .pick (.tmp 49) (.tmp 63) (.const (.bool false)), type := 4, pos := "ref.go:35", after := #[{ on := 6, ground := .data }, { on := 20, ground := .data }], guard := none }) (v := ?_) rfl (by kernel_rfl) (by kernel_rfl) rfl ?_ ?_); rotate_left; focus (intro W hW; (try dsimp only at hW); go_split_ands; go_simp; (try (simp (disch := omega) only [IntWalk.i64_in]; (try go_simp))); (try (split; (next => omega); (try go_simp))); try rfl; done))
          try simp only [Act.put, List.setIfInBounds_toArray, List.set_cons_zero, List.set_cons_succ]
          refine pl_done (by kernel_rfl)  ?_
          rintro w5 ⟨-, -, hc5⟩
          have hc05 := hc0r.trans hc5
          clear a0
          have p3 := hc05.obj o3 (not_no _)
          have p6 := hc05.obj o6 (not_no _)
          have a0 := cell_obj (i := 0) p3 rfl
          have a1 := cell_obj (i := 1) p3 rfl
          have z0 := cell_obj (i := 0) p6 rfl
          have z1 := cell_obj (i := 1) p6 rfl
          have f0 := free_obj (i := 0) p6
          have f1 := free_obj (i := 1) p6
          have Hret := Lib.hid (Hbad.out)
          go_wp2_with (with_reducible first | refine stop_append ?_ | refine stop_copy ?_ | refine stop_make ?_ | refine stop_lookup ?_ | refine stop_update ?_ | refine stop_slice ?_ | refine stop_range ?_ | refine stop_next ?_ | refine stop_convert ⟨_, rfl⟩ ?_ | refine stop_convertB ⟨_, _, _, rfl⟩ ?_ | refine stop_eqSlice ⟨_, _, rfl⟩ ?_)
          refine bodyPost_ret (v := .tuple #[.agg #[.slice (some ⟨bL, oL, none⟩) nL cL, .slice AT nT cT], .int .i64 1]) (by simp [results, Try.results40, go_sem, *]) rfl ?_
          exact dret Hret.out (cwr.trans hc5) hb6 HrF.out _ _
      focus
        have Hgo := Lib.hid (Hnext.out (by rw [Hb1.out, decide_eq_false hy]; rfl))
        have k2 : (y1 == 1) = false := beq_false_of_ne hy
        clear hy
        go_wp2_with (with_reducible first | refine stop_append ?_ | refine stop_copy ?_ | refine stop_make ?_ | refine stop_lookup ?_ | refine stop_update ?_ | refine stop_slice ?_ | refine stop_range ?_ | refine stop_next ?_ | refine stop_convert ⟨_, rfl⟩ ?_ | refine stop_convertB ⟨_, _, _, rfl⟩ ?_ | refine stop_eqSlice ⟨_, _, rfl⟩ ?_)
        refine pl_start (fun W => (W.cell? ⟨b3, 0, none⟩ = some (.slice (some ⟨bL, oL, none⟩) nL cL) ∧ W.cell? ⟨bL, oL + i * 3 + 2, none⟩ = some (.slice Asi ns csi)) ∧ (W.cell? ⟨bE, oE + k * 6 + 1, none⟩ = some (.int .i64 y1) ∧ W.cell? ⟨bE, oE + k * 6 + 2, none⟩ = some (.slice Cc y2.length cc)) ∧ Chg No wr W) (by kernel_rfl) (by kernel_rfl) (HS.out _ cd) ?_
        ((refine pl_yes (i := 0) (oi := { dst := some 43, op := .move (.tmp 2), type := 22, pos := "ref.go:35", after := #[], guard := none }) (v := ?_) rfl (by kernel_rfl) (by kernel_rfl) rfl ?_ ?_); rotate_left; focus (intro W hW; (try dsimp only at hW); go_split_ands; go_simp; (try (simp (disch := omega) only [IntWalk.i64_in]; (try go_simp))); (try (split; (next => omega); (try go_simp))); try rfl; done))
        try simp only [Act.put, List.setIfInBounds_toArray, List.set_cons_zero, List.set_cons_succ]
        ((refine pl_yes (i := 1) (oi := { dst := some 44, op := .move (.tmp 10), type := 3, pos := "ref.go:35", after := #[], guard := none }) (v := ?_) rfl (by kernel_rfl) (by kernel_rfl) rfl ?_ ?_); rotate_left; focus (intro W hW; (try dsimp only at hW); go_split_ands; go_simp; (try (simp (disch := omega) only [IntWalk.i64_in]; (try go_simp))); (try (split; (next => omega); (try go_simp))); try rfl; done))
        try simp only [Act.put, List.setIfInBounds_toArray, List.set_cons_zero, List.set_cons_succ]
        ((refine pl_yes (i := 2) (oi := { dst := some 45, op := .indexAddr 22 (.tmp 43) (.tmp 44), type := 0, pos := "ref.go:35", after := #[{ on := 0, ground := .data }, { on := 1, ground := .data }], guard := none }) (v := ?_) rfl (by kernel_rfl) (by kernel_rfl) rfl ?_ ?_); rotate_left; focus (intro W hW; (try dsimp only at hW); go_split_ands; go_simp; (try (simp (disch := omega) only [IntWalk.i64_in]; (try go_simp))); (try (split; (next => omega); (try go_simp))); try rfl; done))
        try simp only [Act.put, List.setIfInBounds_toArray, List.set_cons_zero, List.set_cons_succ]
        ((refine pl_yes (i := 3) (oi := { dst := some 46, op := .fieldAddr 52 (.tmp 45) 1, type := 0, pos := "ref.go:35", after := #[{ on := 2, ground := .data }], guard := none }) (v := ?_) rfl (by kernel_rfl) (by kernel_rfl) rfl ?_ ?_); rotate_left; focus (intro W hW; (try dsimp only at hW); go_split_ands; go_simp; (try (simp (disch := omega) only [IntWalk.i64_in]; (try go_simp))); (try (split; (next => omega); (try go_simp))); try rfl; done))
        try simp only [Act.put, List.setIfInBounds_toArray, List.set_cons_zero, List.set_cons_succ]
        ((refine pl_yes (i := 4) (oi := { dst := some 47, op := .load 3 (.tmp 46), type := 3, pos := "ref.go:35", after := #[{ on := 3, ground := .data }], guard := none }) (v := ?_) rfl (by kernel_rfl) (by kernel_rfl) rfl ?_ ?_); rotate_left; focus (intro W hW; (try dsimp only at hW); go_split_ands; go_simp; (try (simp (disch := omega) only [IntWalk.i64_in]; (try go_simp))); (try (split; (next => omega); (try go_simp))); try rfl; done))
        try simp only [Act.put, List.setIfInBounds_toArray, List.set_cons_zero, List.set_cons_succ]
        ((refine pl_yes (i := 5) (oi := { dst := some 48, op := .binOp .eql 3 (.tmp 47) (.const (.int .i64 1)) 3, type := 4, pos := "ref.go:35", after := #[{ on := 4, ground := .data }], guard := none }) (v := ?_) rfl (by kernel_rfl) (by kernel_rfl) rfl ?_ ?_); rotate_left; focus (intro W hW; (try dsimp only at hW); go_split_ands; go_simp; (try (simp (disch := omega) only [IntWalk.i64_in]; (try go_simp))); (try (split; (next => omega); (try go_simp))); try rfl; done))
        try simp only [Act.put, List.setIfInBounds_toArray, List.set_cons_zero, List.set_cons_succ]
        ((refine pl_yes (i := 6) (oi := { dst := some 49, op := .move (.tmp 48), type := 4, pos := "ref.go:35", after := #[{ on := 5, ground := .data }], guard := none }) (v := ?_) rfl (by kernel_rfl) (by kernel_rfl) rfl ?_ ?_); rotate_left; focus (intro W hW; (try dsimp only at hW); go_split_ands; go_simp; (try (simp (disch := omega) only [IntWalk.i64_in]; (try go_simp))); (try (split; (next => omega); (try go_simp))); try rfl; done))
        try simp only [Act.put, List.setIfInBounds_toArray, List.set_cons_zero, List.set_cons_succ]
        first | (refine pl_no (i := 7) (oi := { dst := some 50, op := .move (.tmp 2), type := 22, pos := "ref.go:35", after := #[{ on := 6, ground := .guard }], guard := some (6, true) }) rfl (by kernel_rfl) (by kernel_rfl) rfl ?_) | ((refine pl_yes (i := 7) (oi := { dst := some 50, op := .move (.tmp 2), type := 22, pos := "ref.go:35", after := #[{ on := 6, ground := .guard }], guard := some (6, true) }) (v := ?_) rfl (by kernel_rfl) (by kernel_rfl) rfl ?_ ?_); rotate_left; focus (intro W hW; (try dsimp only at hW); go_split_ands; go_simp; (try (simp (disch := omega) only [IntWalk.i64_in]; (try go_simp))); (try (split; (next => omega); (try go_simp))); try rfl; done))
        try simp only [Act.put, List.setIfInBounds_toArray, List.set_cons_zero, List.set_cons_succ]
        first | (refine pl_no (i := 8) (oi := { dst := some 51, op := .move (.tmp 10), type := 3, pos := "ref.go:35", after := #[{ on := 6, ground := .guard }], guard := some (6, true) }) rfl (by kernel_rfl) (by kernel_rfl) rfl ?_) | ((refine pl_yes (i := 8) (oi := { dst := some 51, op := .move (.tmp 10), type := 3, pos := "ref.go:35", after := #[{ on := 6, ground := .guard }], guard := some (6, true) }) (v := ?_) rfl (by kernel_rfl) (by kernel_rfl) rfl ?_ ?_); rotate_left; focus (intro W hW; (try dsimp only at hW); go_split_ands; go_simp; (try (simp (disch := omega) only [IntWalk.i64_in]; (try go_simp))); (try (split; (next => omega); (try go_simp))); try rfl; done))
        try simp only [Act.put, List.setIfInBounds_toArray, List.set_cons_zero, List.set_cons_succ]
        first | (refine pl_no (i := 9) (oi := { dst := some 52, op := .indexAddr 22 (.tmp 50) (.tmp 51), type := 0, pos := "ref.go:35", after := #[{ on := 7, ground := .data }, { on := 8, ground := .data }, { on := 6, ground := .guard }], guard := some (6, true) }) rfl (by kernel_rfl) (by kernel_rfl) rfl ?_) | ((refine pl_yes (i := 9) (oi := { dst := some 52, op := .indexAddr 22 (.tmp 50) (.tmp 51), type := 0, pos := "ref.go:35", after := #[{ on := 7, ground := .data }, { on := 8, ground := .data }, { on := 6, ground := .guard }], guard := some (6, true) }) (v := ?_) rfl (by kernel_rfl) (by kernel_rfl) rfl ?_ ?_); rotate_left; focus (intro W hW; (try dsimp only at hW); go_split_ands; go_simp; (try (simp (disch := omega) only [IntWalk.i64_in]; (try go_simp))); (try (split; (next => omega); (try go_simp))); try rfl; done))
        try simp only [Act.put, List.setIfInBounds_toArray, List.set_cons_zero, List.set_cons_succ]
        first | (refine pl_no (i := 10) (oi := { dst := some 53, op := .fieldAddr 52 (.tmp 52) 2, type := 0, pos := "ref.go:35", after := #[{ on := 9, ground := .data }, { on := 6, ground := .guard }], guard := some (6, true) }) rfl (by kernel_rfl) (by kernel_rfl) rfl ?_) | ((refine pl_yes (i := 10) (oi := { dst := some 53, op := .fieldAddr 52 (.tmp 52) 2, type := 0, pos := "ref.go:35", after := #[{ on := 9, ground := .data }, { on := 6, ground := .guard }], guard := some (6, true) }) (v := ?_) rfl (by kernel_rfl) (by kernel_rfl) rfl ?_ ?_); rotate_left; focus (intro W hW; (try dsimp only at hW); go_split_ands; go_simp; (try (simp (disch := omega) only [IntWalk.i64_in]; (try go_simp))); (try (split; (next => omega); (try go_simp))); try rfl; done))
        try simp only [Act.put, List.setIfInBounds_toArray, List.set_cons_zero, List.set_cons_succ]
        first | (refine pl_no (i := 11) (oi := { dst := some 54, op := .load 46 (.tmp 53), type := 46, pos := "ref.go:35", after := #[{ on := 10, ground := .data }, { on := 6, ground := .guard }], guard := some (6, true) }) rfl (by kernel_rfl) (by kernel_rfl) rfl ?_) | ((refine pl_yes (i := 11) (oi := { dst := some 54, op := .load 46 (.tmp 53), type := 46, pos := "ref.go:35", after := #[{ on := 10, ground := .data }, { on := 6, ground := .guard }], guard := some (6, true) }) (v := ?_) rfl (by kernel_rfl) (by kernel_rfl) rfl ?_ ?_); rotate_left; focus (intro W hW; (try dsimp only at hW); go_split_ands; go_simp; (try (simp (disch := omega) only [IntWalk.i64_in]; (try go_simp))); (try (split; (next => omega); (try go_simp))); try rfl; done))
        try simp only [Act.put, List.setIfInBounds_toArray, List.set_cons_zero, List.set_cons_succ]
        first | (refine pl_no (i := 12) (oi := { dst := some 55, op := .call { callee := .builtin .len, args := #[.tmp 54], argTypes := #[46] }, type := 3, pos := "ref.go:35", after := #[{ on := 11, ground := .data }, { on := 6, ground := .guard }], guard := some (6, true) }) rfl (by kernel_rfl) (by kernel_rfl) rfl ?_) | ((refine pl_yes (i := 12) (oi := { dst := some 55, op := .call { callee := .builtin .len, args := #[.tmp 54], argTypes := #[46] }, type := 3, pos := "ref.go:35", after := #[{ on := 11, ground := .data }, { on := 6, ground := .guard }], guard := some (6, true) }) (v := ?_) rfl (by kernel_rfl) (by kernel_rfl) rfl ?_ ?_); rotate_left; focus (intro W hW; (try dsimp only at hW); go_split_ands; go_simp; (try (simp (disch := omega) only [IntWalk.i64_in]; (try go_simp))); (try (split; (next => omega); (try go_simp))); try rfl; done))
        try simp only [Act.put, List.setIfInBounds_toArray, List.set_cons_zero, List.set_cons_succ]
        first | (refine pl_no (i := 13) (oi := { dst := some 56, op := .fieldAddr 82 (.tmp 3) 0, type := 0, pos := "ref.go:35", after := #[{ on := 6, ground := .guard }], guard := some (6, true) }) rfl (by kernel_rfl) (by kernel_rfl) rfl ?_) | ((refine pl_yes (i := 13) (oi := { dst := some 56, op := .fieldAddr 82 (.tmp 3) 0, type := 0, pos := "ref.go:35", after := #[{ on := 6, ground := .guard }], guard := some (6, true) }) (v := ?_) rfl (by kernel_rfl) (by kernel_rfl) rfl ?_ ?_); rotate_left; focus (intro W hW; (try dsimp only at hW); go_split_ands; go_simp; (try (simp (disch := omega) only [IntWalk.i64_in]; (try go_simp))); (try (split; (next => omega); (try go_simp))); try rfl; done))
        try simp only [Act.put, List.setIfInBounds_toArray, List.set_cons_zero, List.set_cons_succ]
        first | (refine pl_no (i := 14) (oi := { dst := some 57, op := .load 79 (.tmp 56), type := 79, pos := "ref.go:35", after := #[{ on := 13, ground := .data }, { on := 6, ground := .guard }], guard := some (6, true) }) rfl (by kernel_rfl) (by kernel_rfl) rfl ?_) | ((refine pl_yes (i := 14) (oi := { dst := some 57, op := .load 79 (.tmp 56), type := 79, pos := "ref.go:35", after := #[{ on := 13, ground := .data }, { on := 6, ground := .guard }], guard := some (6, true) }) (v := ?_) rfl (by kernel_rfl) (by kernel_rfl) rfl ?_ ?_); rotate_left; focus (intro W hW; (try dsimp only at hW); go_split_ands; go_simp; (try (simp (disch := omega) only [IntWalk.i64_in]; (try go_simp))); (try (split; (next => omega); (try go_simp))); try rfl; done))
        try simp only [Act.put, List.setIfInBounds_toArray, List.set_cons_zero, List.set_cons_succ]
        first | (refine pl_no (i := 15) (oi := { dst := some 58, op := .move (.tmp 8), type := 3, pos := "ref.go:35", after := #[{ on := 6, ground := .guard }], guard := some (6, true) }) rfl (by kernel_rfl) (by kernel_rfl) rfl ?_) | ((refine pl_yes (i := 15) (oi := { dst := some 58, op := .move (.tmp 8), type := 3, pos := "ref.go:35", after := #[{ on := 6, ground := .guard }], guard := some (6, true) }) (v := ?_) rfl (by kernel_rfl) (by kernel_rfl) rfl ?_ ?_); rotate_left; focus (intro W hW; (try dsimp only at hW); go_split_ands; go_simp; (try (simp (disch := omega) only [IntWalk.i64_in]; (try go_simp))); (try (split; (next => omega); (try go_simp))); try rfl; done))
        try simp only [Act.put, List.setIfInBounds_toArray, List.set_cons_zero, List.set_cons_succ]
        first | (refine pl_no (i := 16) (oi := { dst := some 59, op := .indexAddr 79 (.tmp 57) (.tmp 58), type := 0, pos := "ref.go:35", after := #[{ on := 14, ground := .data }, { on := 15, ground := .data }, { on := 6, ground := .guard }], guard := some (6, true) }) rfl (by kernel_rfl) (by kernel_rfl) rfl ?_) | ((refine pl_yes (i := 16) (oi := { dst := some 59, op := .indexAddr 79 (.tmp 57) (.tmp 58), type := 0, pos := "ref.go:35", after := #[{ on := 14, ground := .data }, { on := 15, ground := .data }, { on := 6, ground := .guard }], guard := some (6, true) }) (v := ?_) rfl (by kernel_rfl) (by kernel_rfl) rfl ?_ ?_); rotate_left; focus (intro W hW; (try dsimp only at hW); go_split_ands; go_simp; (try (simp (disch := omega) only [IntWalk.i64_in]; (try go_simp))); (try (split; (next => omega); (try go_simp))); try rfl; done))
        try simp only [Act.put, List.setIfInBounds_toArray, List.set_cons_zero, List.set_cons_succ]
        first | (refine pl_no (i := 17) (oi := { dst := some 60, op := .fieldAddr 63 (.tmp 59) 2, type := 0, pos := "ref.go:35", after := #[{ on := 16, ground := .data }, { on := 6, ground := .guard }], guard := some (6, true) }) rfl (by kernel_rfl) (by kernel_rfl) rfl ?_) | ((refine pl_yes (i := 17) (oi := { dst := some 60, op := .fieldAddr 63 (.tmp 59) 2, type := 0, pos := "ref.go:35", after := #[{ on := 16, ground := .data }, { on := 6, ground := .guard }], guard := some (6, true) }) (v := ?_) rfl (by kernel_rfl) (by kernel_rfl) rfl ?_ ?_); rotate_left; focus (intro W hW; (try dsimp only at hW); go_split_ands; go_simp; (try (simp (disch := omega) only [IntWalk.i64_in]; (try go_simp))); (try (split; (next => omega); (try go_simp))); try rfl; done))
        try simp only [Act.put, List.setIfInBounds_toArray, List.set_cons_zero, List.set_cons_succ]
        first | (refine pl_no (i := 18) (oi := { dst := some 61, op := .load 61 (.tmp 60), type := 61, pos := "ref.go:35", after := #[{ on := 17, ground := .data }, { on := 6, ground := .guard }], guard := some (6, true) }) rfl (by kernel_rfl) (by kernel_rfl) rfl ?_) | ((refine pl_yes (i := 18) (oi := { dst := some 61, op := .load 61 (.tmp 60), type := 61, pos := "ref.go:35", after := #[{ on := 17, ground := .data }, { on := 6, ground := .guard }], guard := some (6, true) }) (v := ?_) rfl (by kernel_rfl) (by kernel_rfl) rfl ?_ ?_); rotate_left; focus (intro W hW; (try dsimp only at hW); go_split_ands; go_simp; (try (simp (disch := omega) only [IntWalk.i64_in]; (try go_simp))); (try (split; (next => omega); (try go_simp))); try rfl; done))
        try simp only [Act.put, List.setIfInBounds_toArray, List.set_cons_zero, List.set_cons_succ]
        first | (refine pl_no (i := 19) (oi := { dst := some 62, op := .call { callee := .builtin .len, args := #[.tmp 61], argTypes := #[61] }, type := 3, pos := "ref.go:35", after := #[{ on := 18, ground := .data }, { on := 6, ground := .guard }], guard := some (6, true) }) rfl (by kernel_rfl) (by kernel_rfl) rfl ?_) | ((refine pl_yes (i := 19) (oi := { dst := some 62, op := .call { callee := .builtin .len, args := #[.tmp 61], argTypes := #[61] }, type := 3, pos := "ref.go:35", after := #[{ on := 18, ground := .data }, { on := 6, ground := .guard }], guard := some (6, true) }) (v := ?_) rfl (by kernel_rfl) (by kernel_rfl) rfl ?_ ?_); rotate_left; focus (intro W hW; (try dsimp only at hW); go_split_ands; go_simp; (try (simp (disch := omega) only [IntWalk.i64_in]; (try go_simp))); (try (split; (next => omega); (try go_simp))); try rfl; done))
        try simp only [Act.put, List.setIfInBounds_toArray, List.set_cons_zero, List.set_cons_succ]
        first | (refine pl_no (i := 20) (oi := { dst := some 63, op := .binOp .neq 3 (.tmp 55) (.tmp 62) 3, type := 4, pos := "ref.go:35", after := #[{ on := 12, ground := .data }, { on := 19, ground := .data }, { on := 6, ground := .guard }], guard := some (6, true) }) rfl (by kernel_rfl) (by kernel_rfl) rfl ?_) | ((refine pl_yes (i := 20) (oi := { dst := some 63, op := .binOp .neq 3 (.tmp 55) (.tmp 62) 3, type := 4, pos := "ref.go:35", after := #[{ on := 12, ground := .data }, { on := 19, ground := .data }, { on := 6, ground := .guard }], guard := some (6, true) }) (v := ?_) rfl (by kernel_rfl) (by kernel_rfl) rfl ?_ ?_); rotate_left; focus (intro W hW; (try dsimp only at hW); go_split_ands; go_simp; (try (simp (disch := omega) only [IntWalk.i64_in]; (try go_simp))); (try (split; (next => omega); (try go_simp))); try rfl; done))
        try simp only [Act.put, List.setIfInBounds_toArray, List.set_cons_zero, List.set_cons_succ]
        ((refine pl_yes (i := 21) (oi := { dst := some 64, op := .pick (.tmp 49) (.tmp 63) (.const (.bool false)), type := 4, pos := "ref.go:35", after := #[{ on := 6, ground := .data }, { on := 20, ground := .data }], guard := none }) (v := ?_) rfl (by kernel_rfl) (by kernel_rfl) rfl ?_ ?_); rotate_left; focus (intro W hW; (try dsimp only at hW); go_split_ands; go_simp; (try (simp (disch := omega) only [IntWalk.i64_in]; (try go_simp))); (try (split; (next => omega); (try go_simp))); try rfl; done))
        try simp only [Act.put, List.setIfInBounds_toArray, List.set_cons_zero, List.set_cons_succ]
        refine pl_done (by kernel_rfl)  ?_
        rintro w5 ⟨-, -, hc5⟩
        have hc45 := hc.trans hc5
        go_wp2_with (with_reducible first | refine stop_append ?_ | refine stop_copy ?_ | refine stop_make ?_ | refine stop_lookup ?_ | refine stop_update ?_ | refine stop_slice ?_ | refine stop_range ?_ | refine stop_next ?_ | refine stop_convert ⟨_, rfl⟩ ?_ | refine stop_convertB ⟨_, _, _, rfl⟩ ?_ | refine stop_eqSlice ⟨_, _, rfl⟩ ?_)
        go_roundw
        case rel => exact ⟨k + 1, by omega, by go_num, hc45, Hgo.out⟩
        case measure => simp [intOf]; omega
    focus
      obtain rfl : k = l.length := by omega
      rw [List.take_length] at Hall
      have Hg := Lib.hid (HG.out Hall.out)
      clear HG Hfit3 Hbd HbdE
      rcases oo with _ | j
      focus
        simp only [atI_some, atI_none] at *
        have hni : ¬ (i : Int) < 0 := by omega
        have hRn := Lib.hid (show R = (0, newR rows t q s l) by
          have h1 := atR_none Hoo.out.symm
          obtain ⟨-, h2⟩ := atR_some hi0 Hao.out.symm
          have h3 := Ht1.out
          have hie : i = rows.length - 1 := by omega
          rw [Hg.out, hie]; rfl)
        have hF0 : ∀ b, F b → b < w.heap.size := HF.out
        have hwr := cwr.size
        have Hnl := Lib.hid (show (cfgsR rows).length = rows.length from cfgsR_len rows)
        have Hnt := Lib.hid (show (tailsR rows).length = rows.length - 1 from tailsR_len rows)
        have hLr := (HrF.out wr cwr).l
        have hTr := (HrF.out wr cwr).t
        have hLw := (HrF.out w (Chg.refl _ _)).l
        have hTw := (HrF.out w (Chg.refl _ _)).t
        have hwk : ∀ (k : Nat), w.heap.size ≤ k → ∀ b, b < w.heap.size → Or (Or F (Ge w.heap.size)) (At k) b → F b := fun k hk b hb hg => by
          rcases hg with (hg | hg) | hg
          · exact hg
          · simp only [Ge] at hg; omega
          · simp only [At] at hg; omega
        have hobat : ∀ (v : Value) (b : Nat), OB v b → w.heap.size ≤ b → Or (Or F (Ge w.heap.size)) (At b) b := fun _ b _ h => .inl (.inr h)
        have own0 := Own.made0 (α := Cfg) (Or F (Ge w.heap.size)) wr 63
        have hcE := (Chg.refl No wr).alloc (.cells #[] 63)
        have hy0 := ((hLw.weak (hwk wr.heap.size hwr)).keepNo cwr).keepNo hcE
        have p3 := hcE.obj (hc0r.obj o3 (not_no _)) (not_no _)
        have p4 := hcE.obj (hc0r.obj o4 (not_no _)) (not_no _)
        have p6 := hcE.obj (hc0r.obj o6 (not_no _)) (not_no _)
        have hb3l := lt_of_heap (hc0r.obj o3 (not_no _))
        have hb4l := lt_of_heap (hc0r.obj o4 (not_no _))
        have hb6l := lt_of_heap (hc0r.obj o6 (not_no _))
        have a0 := cell_obj (i := 0) p3 rfl
        clear e2 hLr hTr
        go_wp2_with (with_reducible first | refine stop_append ?_ | refine stop_copy ?_ | refine stop_make ?_ | refine stop_lookup ?_ | refine stop_update ?_ | refine stop_slice ?_ | refine stop_range ?_ | refine stop_next ?_ | refine stop_convert ⟨_, rfl⟩ ?_ | refine stop_convertB ⟨_, _, _, rfl⟩ ?_ | refine stop_eqSlice ⟨_, _, rfl⟩ ?_)
        refine step_append_sl (α := Cfg) (F := (Or F (Ge w.heap.size))) (G := Or (Or F (Ge w.heap.size)) (At wr.heap.size)) Try.underlying79 info_cfg rfl own0 rfl rfl hy0 (fun b _ h => by
          rcases h with h | h
          · exact .inl h
          · simp only [OB, Value.ownBlock, Option.some.injEq] at h; exact .inr h.symm) (by rw [Hnl.out]; simp; omega) (by rw [Hnl.out]; simp [show Rep.n Cfg = 3 from rfl]; omega) (by simp) ?_
        intro v5 w5 own5 hg5
        rw [List.nil_append] at own5
        have hcR5 : Chg No wr w5 := hcE.grew hg5 (fun k hk => by simp only [Value.ownBlock, Option.some.injEq] at hk; exact .inr (by omega))
        have hz5 := hcR5.size
        have hlt5 := own5.lt
        obtain ⟨A5, c5, rfl⟩ := own5.slice
        clear hy0 own0 p3 p4 p6 a0 hg5 hcE
        have own6 := Own.made0 (α := List Ent) (Or F (Ge w.heap.size)) w5 22
        have hcE := (Chg.refl No w5).alloc (.cells #[] 22)
        have cR5 := cwr.trans hcR5
        have hy1 := ((hTw.weak (hwk w5.heap.size (by omega))).keepNo cR5).keepNo hcE
        have p3 := hcE.obj (hcR5.obj (hc0r.obj o3 (not_no _)) (not_no _)) (not_no _)
        have a1 := cell_obj (i := 1) p3 rfl
        have Own5 := Lib.hid own5
        clear own5
        go_wp2_with (with_reducible first | refine stop_append ?_ | refine stop_copy ?_ | refine stop_make ?_ | refine stop_lookup ?_ | refine stop_update ?_ | refine stop_slice ?_ | refine stop_range ?_ | refine stop_next ?_ | refine stop_convert ⟨_, rfl⟩ ?_ | refine stop_convertB ⟨_, _, _, rfl⟩ ?_ | refine stop_eqSlice ⟨_, _, rfl⟩ ?_)
        refine step_append_sl (α := List Ent) (F := (Or F (Ge w.heap.size))) (G := Or (Or F (Ge w.heap.size)) (At w5.heap.size)) Try.underlying80 info_ents rfl own6 rfl rfl hy1 (fun b _ h => by
          rcases h with h | h
          · exact .inl h
          · simp only [OB, Value.ownBlock, Option.some.injEq] at h; exact .inr h.symm) (by rw [Hnt.out]; simp; omega) (by rw [Hnt.out]; simp [show Rep.n (List Ent) = 1 from rfl]; omega) (by simp) ?_
        intro v6 w6 own6 hg6
        rw [List.nil_append] at own6
        have hc56 : Chg No w5 w6 := hcE.grew hg6 (fun k hk => by simp only [Value.ownBlock, Option.some.injEq] at hk; exact .inr (by omega))
        have hlt6 := own6.lt
        have hz6 := hc56.size
        obtain ⟨A6, c6, rfl⟩ := own6.slice
        have hcR6 := hcR5.trans hc56
        have cR6 := cR5.trans hc56
        obtain ⟨FB, hFB⟩ : ∃ P : Nat → Prop, ∀ b, P b ↔ (F b ∨ (w.heap.size ≤ b ∧ b < w6.heap.size)) := ⟨_, fun b => Iff.rfl⟩
        have hFBs : ∀ b, FB b → Or F (Ge w.heap.size) b := fun b hb => ((hFB b).1 hb).imp id (fun h => h.1)
        have Own5' := Lib.hid (own_weak (Own5.out.keep hc56 (fun _ _ f => f.elim) (fun _ _ f => f)) hFBs)
        have Own6 := Lib.hid (own_weak own6 hFBs)
        clear hy1 own6 p3 a1 hg6 hcE Own5
        have p3 := hcR6.obj (hc0r.obj o3 (not_no _)) (not_no _)
        have p4 := hcR6.obj (hc0r.obj o4 (not_no _)) (not_no _)
        have d0 := cell_obj (i := 0) p4 rfl
        have d1 := cell_obj (i := 1) p4 rfl
        have d2 := cell_obj (i := 2) p4 rfl
        have hcF := (Chg.refl No w6).alloc (.cells #[.int .i64 t, .slice Aq q.length cq, .slice As s.length cs] 63)
        have hgw : ∀ (v : Value), (∀ b, OB v b → w.heap.size ≤ b) → ∀ b, b < w.heap.size → Or FB (OB v) b → F b := fun v hv b hb hg => by
          rcases hg with hg | hg
          · rcases (hFB b).1 hg with h | h
            · exact h
            · omega
          · have := hv b hg; omega
        have hob5 : ∀ b, OB (.slice A5 (cfgsR rows).length c5) b → w.heap.size ≤ b := fun b hb => by have := (hlt5 b hb).1; omega
        have hob6 : ∀ b, OB (.slice A6 (tailsR rows).length c6) b → w.heap.size ≤ b := fun b hb => by have := (hlt6 b hb).1; omega
        have hlit : Sl (Or FB (OB (.slice A5 (cfgsR rows).length c5))) (w6.alloc (.cells #[.int .i64 t, .slice Aq q.length cq, .slice As s.length cs] 63)) (.slice (some ⟨w6.heap.size, 0, none⟩) 1 1) [((t, q, s) : Cfg)] :=
          Sl.lit1 rfl (cfg_mk t (((Hq.out w (Chg.refl _ _)).weak (hgw _ hob5)).keepNo cR6) (((Hs.out w (Chg.refl _ _)).weak (hgw _ hob5)).keepNo cR6)) (fun hg => by
            rcases hg with hg | hg
            · rcases (hFB _).1 hg with h | h
              · have := hF0 _ h; omega
              · omega
            · have := (hlt5 _ hg).2; omega)
        go_wp2_with (with_reducible first | refine stop_append ?_ | refine stop_copy ?_ | refine stop_make ?_ | refine stop_lookup ?_ | refine stop_update ?_ | refine stop_slice ?_ | refine stop_range ?_ | refine stop_next ?_ | refine stop_convert ⟨_, rfl⟩ ?_ | refine stop_convertB ⟨_, _, _, rfl⟩ ?_ | refine stop_eqSlice ⟨_, _, rfl⟩ ?_)
        refine step_append_sl (α := Cfg) (F := FB) (G := Or FB (OB (.slice A5 (cfgsR rows).length c5))) Try.underlying79 info_cfg rfl (Own5'.out.keep hcF (fun _ _ f => f.elim) (fun _ _ f => f)) rfl rfl hlit (fun _ _ h => h) (by rw [Hnl.out]; simp; omega) (by rw [Hnl.out]; simp [show Rep.n Cfg = 3 from rfl]; omega) (by have := hcF.size; omega) ?_
        intro v8 w8 own8 hg8
        have hlt8 := own8.lt
        have hblk8 : ∀ k, OB v8 k → OB (.slice A5 (cfgsR rows).length c5) k ∨ w6.heap.size ≤ k := fun k hk => by
          rcases hg8.blk k hk with h | h
          · exact .inl h
          · exact .inr (by have := hcF.size; omega)
        obtain ⟨A8, c8, e8⟩ := own8.slice
        obtain ⟨n8, hn8⟩ : ∃ n, n = (cfgsR rows ++ [((t, q, s) : Cfg)]).length := ⟨_, rfl⟩
        rw [← hn8] at e8
        subst e8
        clear hn8
        have hc68 : Chg (OB (.slice A5 (cfgsR rows).length c5)) w6 w8 := hcF.trans' hg8.chg (fun _ _ f => f.elim) (fun _ _ h => h)
        have hz8 := hc68.size
        have p38 := hc68.obj p3 (fun h => by have := (hlt5 _ h).1; omega)
        have p68 := hc68.obj (hcR6.obj (hc0r.obj o6 (not_no _)) (not_no _)) (fun h => by have := (hlt5 _ h).1; omega)
        have Own6' := Lib.hid (Own6.out.keep hc68 (fun b hb h => (hFB b).2 (.inr ⟨hob5 b h, hb⟩)) (fun k hk h => by have := (hlt6 k hk).1; have := (hlt5 k h).2; omega))
        have z0 := cell_obj (i := 0) p38 rfl
        have f0 := free_obj (i := 0) p38
        have hc89 : Chg (At b3) w8 (w8.setCell ⟨b3, 0, none⟩ (.slice A8 n8 c8)) := chg_set _
        have p39 := obj_set (i := 0) (u := .slice A8 n8 c8) p38 rfl
        have p69 : ((w8.setCell ⟨b3, 0, none⟩ (.slice A8 n8 c8))).heap[b6]? = _ := obj_set_other p68 (fun h => hb36 h.symm)
        have hblk3 : FB b3 := (hFB b3).2 (.inr ⟨by omega, by omega⟩)
        have hblk6 : FB b6 := (hFB b6).2 (.inr ⟨by omega, by omega⟩)
        have Own89 := Lib.hid (own8.keep hc89 (fun b _ hb => by simp only [At] at hb; subst hb; exact hblk3) (fun k hk h => by have := (hlt8 k hk).1; simp only [At] at h; omega))
        have Own69 := Lib.hid (Own6'.out.keep hc89 (fun b _ hb => by simp only [At] at hb; subst hb; exact hblk3) (fun k hk h => by have := (hlt6 k hk).1; simp only [At] at h; omega))
        have c9w : Chg No w (w8.setCell ⟨b3, 0, none⟩ (.slice A8 n8 c8)) := (cR6.old hc68 hob5).old hc89 (fun k hk => by simp only [At] at hk; omega)
        have hzs : ((w8.setCell ⟨b3, 0, none⟩ (.slice A8 n8 c8))).heap.size = w8.heap.size := by simp
        have hcG := (Chg.refl No (w8.setCell ⟨b3, 0, none⟩ (.slice A8 n8 c8))).alloc (.cells #[.slice At0 l.length ct] 22)
        have hlit2 : Sl (Or FB (OB (.slice A6 (tailsR rows).length c6))) (((w8.setCell ⟨b3, 0, none⟩ (.slice A8 n8 c8))).alloc (.cells #[.slice At0 l.length ct] 22)) (.slice (some ⟨((w8.setCell ⟨b3, 0, none⟩ (.slice A8 n8 c8))).heap.size, 0, none⟩) 1 1) [l] :=
          Sl.lit1 rfl ⟨_, rfl, ((Ht.out w (Chg.refl _ _)).weak (hgw _ hob6)).keepNo c9w⟩ (fun hg => by
            rw [hzs] at hg
            rcases hg with hg | hg
            · rcases (hFB _).1 hg with h | h
              · have := hF0 _ h; omega
              · omega
            · have := (hlt6 _ hg).2; omega)
        rw [hzs] at hlit2
        clear own8 hg8 hlit d0 d1 d2 Own6 Own5' Own6' p38 p68 p3 p4
        go_wp2_with (with_reducible first | refine stop_append ?_ | refine stop_copy ?_ | refine stop_make ?_ | refine stop_lookup ?_ | refine stop_update ?_ | refine stop_slice ?_ | refine stop_range ?_ | refine stop_next ?_ | refine stop_convert ⟨_, rfl⟩ ?_ | refine stop_convertB ⟨_, _, _, rfl⟩ ?_ | refine stop_eqSlice ⟨_, _, rfl⟩ ?_)
        generalize (w8.setCell ⟨b3, 0, none⟩ (.slice A8 n8 c8)) = w9 at *
        refine step_append_sl (α := List Ent) (F := FB) (G := Or FB (OB (.slice A6 (tailsR rows).length c6))) Try.underlying80 info_ents rfl (Own69.out.keep hcG (fun _ _ f => f.elim) (fun _ _ f => f)) rfl rfl hlit2 (fun _ _ h => h) (by rw [Hnt.out]; simp; omega) (by rw [Hnt.out]; simp [show Rep.n (List Ent) = 1 from rfl]; omega) (by have := hcG.size; omega) ?_
        intro v11 w11 own11 hg11
        have hlt11 := own11.lt
        obtain ⟨A11, c11, e11⟩ := own11.slice
        obtain ⟨n11, hn11⟩ : ∃ n, n = (tailsR rows ++ [l]).length := ⟨_, rfl⟩
        rw [← hn11] at e11
        subst e11
        clear hn11
        have hc911 : Chg (OB (.slice A6 (tailsR rows).length c6)) w9 w11 := hcG.trans' hg11.chg (fun _ _ f => f.elim) (fun _ _ h => h)
        have p311 := hc911.obj p39 (fun h => by have := (hlt6 _ h).1; omega)
        have p611 := hc911.obj p69 (fun h => by have := (hlt6 _ h).1; omega)
        have Own811 := Lib.hid (Own89.out.keep hc911 (fun b _ h => (hFB b).2 (.inr ⟨hob6 b h, (hlt6 b h).2⟩)) (fun k hk h => by
          have h1 := hlt6 k h
          rcases hblk8 k hk with h2 | h2
          · have := (hlt5 k h2).2; omega
          · omega))
        have c11w : Chg No w w11 := c9w.old hc911 hob6
        have Own11 := Lib.hid own11
        have y1 := cell_obj (i := 1) p311 rfl
        have f1 := free_obj (i := 1) p311
        have hc12 : Chg (At b3) w11 (w11.setCell ⟨b3, 1, none⟩ (.slice A11 n11 c11)) := chg_set _
        have p312 := obj_set (i := 1) (u := .slice A11 n11 c11) p311 rfl
        have p612 : ((w11.setCell ⟨b3, 1, none⟩ (.slice A11 n11 c11))).heap[b6]? = _ := obj_set_other p611 (fun h => hb36 h.symm)
        have s0 := cell_obj (i := 0) p312 (u := .slice A8 n8 c8) rfl
        have s1 := cell_obj (i := 1) p312 (u := .slice A11 n11 c11) rfl
        have q0 := cell_obj (i := 0) p612 rfl
        have q1 := cell_obj (i := 1) p612 rfl
        have g0 := free_obj (i := 0) p612
        have g1 := free_obj (i := 1) p612
        have k3 : ∀ b, b < w11.heap.size → At b3 b → FB b := fun b _ hb => by simp only [At] at hb; subst hb; exact hblk3
        have hn83 : ∀ k, (Value.slice A8 n8 c8).ownBlock = some k → ¬ At b3 k ∧ ¬ At b6 k ∧ w.heap.size ≤ k := fun k hk => by
          have := (hlt8 k hk).1
          simp only [At]; omega
        have hn113 : ∀ k, (Value.slice A11 n11 c11).ownBlock = some k → ¬ At b3 k ∧ ¬ At b6 k ∧ w.heap.size ≤ k := fun k hk => by
          have := (hlt11 k hk).1
          simp only [At]; omega
        have OwnA := Lib.hid (Own811.out.keep hc12 k3 (fun k hk => (hn83 k hk).1))
        have OwnB := Lib.hid (Own11.out.keep hc12 k3 (fun k hk => (hn113 k hk).1))
        have c12w : Chg No w (w11.setCell ⟨b3, 1, none⟩ (.slice A11 n11 c11)) := c11w.old hc12 (fun k hk => by simp only [At] at hk; omega)
        clear own11 hg11 hlit2 Own89 Own69 Own811 Own11 p311 p611 p39 p69
        go_wp2_with (with_reducible first | refine stop_append ?_ | refine stop_copy ?_ | refine stop_make ?_ | refine stop_lookup ?_ | refine stop_update ?_ | refine stop_slice ?_ | refine stop_range ?_ | refine stop_next ?_ | refine stop_convert ⟨_, rfl⟩ ?_ | refine stop_convertB ⟨_, _, _, rfl⟩ ?_ | refine stop_eqSlice ⟨_, _, rfl⟩ ?_)
        refine bodyPost_ret (v := .tuple #[.agg #[.slice A8 n8 c8, .slice A11 n11 c11], .int .i64 0]) (by simp [results, Try.results40, go_sem, *]) rfl ?_
        rw [hRn.out]
        generalize (w11.setCell ⟨b3, 1, none⟩ (.slice A11 n11 c11)) = w12 at *
        have hcf : ∀ x y : Value, Chg (At b6) w12 ((w12.setCell ⟨b6, 0, none⟩ x).setCell ⟨b6, 1, none⟩ y) := fun x y => (chg_set x).trans (chg_set y)
        have k6 : ∀ b, b < w12.heap.size → At b6 b → FB b := fun b _ hb => by simp only [At] at hb; subst hb; exact hblk6
        have hFF : ∀ b, F b → FB b := fun b hb => (hFB b).2 (.inl hb)
        refine ⟨_, _, rfl, c12w.old (hcf _ _) (fun k hk => by simp only [At] at hk; omega), ⟨?_, ?_⟩⟩
        · show Sl F _ _ (cfgsR (newR rows t q s l))
          rw [cfgs_new]
          exact (own_weak (OwnA.out.keep (hcf _ _) k6 (fun k hk => (hn83 k hk).2.1)) hFF).sl (fun k hk h => by have := (hn83 k hk).2.2; have := hF0 k h; omega)
        · show Sl F _ _ (tailsR (newR rows t q s l))
          rw [tails_new _ _ _ _ _ hi0]
          exact (own_weak (OwnB.out.keep (hcf _ _) k6 (fun k hk => (hn113 k hk).2.1)) hFF).sl (fun k hk h => by have := (hn113 k hk).2.2; have := hF0 k h; omega)
      focus
        simp only [atI_some, atI_none] at *
        have hj0 : 0 ≤ (j : Int) := by omega
        obtain ⟨hjl, hjt⟩ := atR_some hi0 Hoo.out.symm
        obtain ⟨-, hit⟩ := atR_some hi0 Hao.out.symm
        have hi1 : i < rows.length - 1 := by have := Ht1.out; omega
        have hjL : j < nL := by have := HnL.out; omega
        have hiT : i < nT := by have := HnT.out; omega
        obtain ⟨bL', oL', vqj, vsj, eL, -, sqj, ssj, e0, e1, e3⟩ := cfg_get (HrF.out _ cwr).l j hjl
        cases eL
        obtain ⟨bT, oT, vti, rfl, -, sti, e4⟩ := tail_get (HrF.out _ cwr).t i hi1
        obtain ⟨-, hrj, -⟩ := Hri.out.1.2.2 j hjl
        obtain ⟨-, -, hti⟩ := Hri.out.1.2.2 i hil
        have hsm := right_small hrj
        have hsm2 := right_small Hrb.out.symm
        have Hsm := Lib.hid (fun W (hW : Chg No wr W) => csame_any F F F F rows[j].1 t vqj vsj (.slice Aq q.length cq) (.slice As s.length cs) rows[j].2.1 q rows[j].2.2.1 s W (sqj.keepNo hW) (ssj.keepNo hW) (Hq.out W (cwr.trans hW)) (Hs.out W (cwr.trans hW))
          (by have := hsm.1; omega) (by have := hsm.2.1; omega) (fun x hx => by have := hsm.2.2 x hx; omega) (by have := hsm2.1; omega) (by have := hsm2.2.1; omega) (fun x hx => by have := hsm2.2.2 x hx; omega))
        have Heq := Lib.hid (fun W (hW : Chg No wr W) => dsameall_any F F vti (.slice At0 l.length ct) rows[i].2.2.2.1 l W (sti.keepNo hW) (Ht.out W (cwr.trans hW)) hti.1 Hl.out.1 (fun e he => by have := hti.2 e he; omega) Hl.out.2)
        have Hg2 := Lib.hid (show R = (if sameC rows[j].1 rows[j].2.1 rows[j].2.2.1 t q s && decide (rows[i].2.2.2.1 = l) then 0 else 140, rows) by rw [Hg.out, ← rowA_get rows j hjl, ← rowA_get rows i hil]; rfl)
        obtain ⟨Bq, dq, rfl⟩ := sqj.slice
        obtain ⟨Bs, ds, rfl⟩ := ssj.slice
        obtain ⟨Bt, dt, rfl⟩ := sti.slice
        unfold cfgV at Hsm
        clear sqj ssj sti hrj hti hsm hsm2 Hg hjt hit
        generalize sameC rows[j].1 rows[j].2.1 rows[j].2.2.1 t q s = bb1 at *
        generalize decide (rows[i].2.2.2.1 = l) = bb2 at *
        generalize rows[j].1 = tj at *
        generalize rows[j].2.1.length = n1 at *
        generalize rows[j].2.2.1.length = n2 at *
        generalize rows[i].2.2.2.1.length = n3 at *
        have p3 := hc0r.obj o3 (not_no _)
        have p4 := hc0r.obj o4 (not_no _)
        have a0 := cell_obj (i := 0) p3 rfl
        have a1 := cell_obj (i := 1) p3 rfl
        have c0 := cell_obj (i := 0) p4 rfl
        have c1 := cell_obj (i := 1) p4 rfl
        have c2 := cell_obj (i := 2) p4 rfl
        clear p3 p4
        have HS := Lib.hid (show ∀ W : World, Chg No wr W → (fun W => ((W.cell? ⟨b3, 0, none⟩ = some (.slice (some ⟨bL, oL, none⟩) nL cL) ∧ W.cell? ⟨b3, 1, none⟩ = some (.slice (some ⟨bT, oT, none⟩) nT cT)) ∧ (W.cell? ⟨b4, 0, none⟩ = some (.int .i64 t) ∧ W.cell? ⟨b4, 1, none⟩ = some (.slice Aq q.length cq) ∧ W.cell? ⟨b4, 2, none⟩ = some (.slice As s.length cs))) ∧ ((W.cell? ⟨bL, oL + j * 3, none⟩ = some (.int .i64 tj) ∧ W.cell? ⟨bL, oL + j * 3 + 1, none⟩ = some (.slice Bq n1 dq) ∧ W.cell? ⟨bL, oL + j * 3 + 2, none⟩ = some (.slice Bs n2 ds)) ∧ W.cell? ⟨bT, oT + i, none⟩ = some (.slice Bt n3 dt)) ∧ Chg No wr W) W from fun W hW => ⟨⟨⟨hW.cell a0 (not_no _), hW.cell a1 (not_no _)⟩, ⟨hW.cell c0 (not_no _), hW.cell c1 (not_no _), hW.cell c2 (not_no _)⟩⟩, ⟨⟨hW.cell e0 (not_no _), hW.cell e1 (not_no _), hW.cell e3 (not_no _)⟩, hW.cell e4 (not_no _)⟩, hW⟩)
        clear a0 a1 c0 c1 c2 e0 e1 e2 e3 e4
        have hni : ¬ (i : Int) < 0 := by omega
        go_wp2_with (with_reducible first | refine stop_append ?_ | refine stop_copy ?_ | refine stop_make ?_ | refine stop_lookup ?_ | refine stop_update ?_ | refine stop_slice ?_ | refine stop_range ?_ | refine stop_next ?_ | refine stop_convert ⟨_, rfl⟩ ?_ | refine stop_convertB ⟨_, _, _, rfl⟩ ?_ | refine stop_eqSlice ⟨_, _, rfl⟩ ?_)
        rcases bb1 with _ | _
        focus
          refine pl_start (fun W => ((W.cell? ⟨b3, 0, none⟩ = some (.slice (some ⟨bL, oL, none⟩) nL cL) ∧ W.cell? ⟨b3, 1, none⟩ = some (.slice (some ⟨bT, oT, none⟩) nT cT)) ∧ (W.cell? ⟨b4, 0, none⟩ = some (.int .i64 t) ∧ W.cell? ⟨b4, 1, none⟩ = some (.slice Aq q.length cq) ∧ W.cell? ⟨b4, 2, none⟩ = some (.slice As s.length cs))) ∧ ((W.cell? ⟨bL, oL + j * 3, none⟩ = some (.int .i64 tj) ∧ W.cell? ⟨bL, oL + j * 3 + 1, none⟩ = some (.slice Bq n1 dq) ∧ W.cell? ⟨bL, oL + j * 3 + 2, none⟩ = some (.slice Bs n2 ds)) ∧ W.cell? ⟨bT, oT + i, none⟩ = some (.slice Bt n3 dt)) ∧ Chg No wr W) (by kernel_rfl) (by kernel_rfl) (HS.out _ cd) ?_
          ((refine pl_yes (i := 0) (oi := { dst := some 68, op := .move (.tmp 8), type := 3, pos := "ref.go:40", after := #[], guard := none }) (v := ?_) rfl (by kernel_rfl) (by kernel_rfl) rfl ?_ ?_); rotate_left; focus (intro W hW; (try dsimp only at hW); go_split_ands; go_simp; (try (simp (disch := omega) only [IntWalk.i64_in]; (try go_simp))); (try (split; (next => omega); (try go_simp))); try rfl; done))
          try simp only [Act.put, List.setIfInBounds_toArray, List.set_cons_zero, List.set_cons_succ]
          ((refine pl_yes (i := 1) (oi := { dst := some 69, op := .binOp .lss 3 (.tmp 68) (.const (.int .i64 0)) 3, type := 4, pos := "ref.go:40", after := #[{ on := 0, ground := .data }], guard := none }) (v := ?_) rfl (by kernel_rfl) (by kernel_rfl) rfl ?_ ?_); rotate_left; focus (intro W hW; (try dsimp only at hW); go_split_ands; go_simp; (try (simp (disch := omega) only [IntWalk.i64_in]; (try go_simp))); (try (split; (next => omega); (try go_simp))); try rfl; done))
          try simp only [Act.put, List.setIfInBounds_toArray, List.set_cons_zero, List.set_cons_succ]
          ((refine pl_yes (i := 2) (oi := { dst := some 70, op := .move (.tmp 69), type := 4, pos := "ref.go:40", after := #[{ on := 1, ground := .data }], guard := none }) (v := ?_) rfl (by kernel_rfl) (by kernel_rfl) rfl ?_ ?_); rotate_left; focus (intro W hW; (try dsimp only at hW); go_split_ands; go_simp; (try (simp (disch := omega) only [IntWalk.i64_in]; (try go_simp))); (try (split; (next => omega); (try go_simp))); try rfl; done))
          try simp only [Act.put, List.setIfInBounds_toArray, List.set_cons_zero, List.set_cons_succ]
          first | (refine pl_no (i := 3) (oi := { dst := some 71, op := .fieldAddr 82 (.tmp 3) 0, type := 0, pos := "ref.go:40", after := #[{ on := 2, ground := .guard }], guard := some (2, false) }) rfl (by kernel_rfl) (by kernel_rfl) rfl ?_) | ((refine pl_yes (i := 3) (oi := { dst := some 71, op := .fieldAddr 82 (.tmp 3) 0, type := 0, pos := "ref.go:40", after := #[{ on := 2, ground := .guard }], guard := some (2, false) }) (v := ?_) rfl (by kernel_rfl) (by kernel_rfl) rfl ?_ ?_); rotate_left; focus (intro W hW; (try dsimp only at hW); go_split_ands; go_simp; (try (simp (disch := omega) only [IntWalk.i64_in]; (try go_simp))); (try (split; (next => omega); (try go_simp))); try rfl; done))
          try simp only [Act.put, List.setIfInBounds_toArray, List.set_cons_zero, List.set_cons_succ]
          first | (refine pl_no (i := 4) (oi := { dst := some 72, op := .load 79 (.tmp 71), type := 79, pos := "ref.go:40", after := #[{ on := 3, ground := .data }, { on := 2, ground := .guard }], guard := some (2, false) }) rfl (by kernel_rfl) (by kernel_rfl) rfl ?_) | ((refine pl_yes (i := 4) (oi := { dst := some 72, op := .load 79 (.tmp 71), type := 79, pos := "ref.go:40", after := #[{ on := 3, ground := .data }, { on := 2, ground := .guard }], guard := some (2, false) }) (v := ?_) rfl (by kernel_rfl) (by kernel_rfl) rfl ?_ ?_); rotate_left; focus (intro W hW; (try dsimp only at hW); go_split_ands; go_simp; (try (simp (disch := omega) only [IntWalk.i64_in]; (try go_simp))); (try (split; (next => omega); (try go_simp))); try rfl; done))
          try simp only [Act.put, List.setIfInBounds_toArray, List.set_cons_zero, List.set_cons_succ]
          first | (refine pl_no (i := 5) (oi := { dst := some 73, op := .move (.tmp 9), type := 3, pos := "ref.go:40", after := #[{ on := 2, ground := .guard }], guard := some (2, false) }) rfl (by kernel_rfl) (by kernel_rfl) rfl ?_) | ((refine pl_yes (i := 5) (oi := { dst := some 73, op := .move (.tmp 9), type := 3, pos := "ref.go:40", after := #[{ on := 2, ground := .guard }], guard := some (2, false) }) (v := ?_) rfl (by kernel_rfl) (by kernel_rfl) rfl ?_ ?_); rotate_left; focus (intro W hW; (try dsimp only at hW); go_split_ands; go_simp; (try (simp (disch := omega) only [IntWalk.i64_in]; (try go_simp))); (try (split; (next => omega); (try go_simp))); try rfl; done))
          try simp only [Act.put, List.setIfInBounds_toArray, List.set_cons_zero, List.set_cons_succ]
          first | (refine pl_no (i := 6) (oi := { dst := some 74, op := .indexAddr 79 (.tmp 72) (.tmp 73), type := 0, pos := "ref.go:40", after := #[{ on := 4, ground := .data }, { on := 5, ground := .data }, { on := 2, ground := .guard }], guard := some (2, false) }) rfl (by kernel_rfl) (by kernel_rfl) rfl ?_) | ((refine pl_yes (i := 6) (oi := { dst := some 74, op := .indexAddr 79 (.tmp 72) (.tmp 73), type := 0, pos := "ref.go:40", after := #[{ on := 4, ground := .data }, { on := 5, ground := .data }, { on := 2, ground := .guard }], guard := some (2, false) }) (v := ?_) rfl (by kernel_rfl) (by kernel_rfl) rfl ?_ ?_); rotate_left; focus (intro W hW; (try dsimp only at hW); go_split_ands; go_simp; (try (simp (disch := omega) only [IntWalk.i64_in]; (try go_simp))); (try (split; (next => omega); (try go_simp))); try rfl; done))
          try simp only [Act.put, List.setIfInBounds_toArray, List.set_cons_zero, List.set_cons_succ]
          first | (refine pl_no (i := 7) (oi := { dst := some 75, op := .load 63 (.tmp 74), type := 63, pos := "ref.go:40", after := #[{ on := 6, ground := .data }, { on := 2, ground := .guard }], guard := some (2, false) }) rfl (by kernel_rfl) (by kernel_rfl) rfl ?_) | ((refine pl_yes (i := 7) (oi := { dst := some 75, op := .load 63 (.tmp 74), type := 63, pos := "ref.go:40", after := #[{ on := 6, ground := .data }, { on := 2, ground := .guard }], guard := some (2, false) }) (v := ?_) rfl (by kernel_rfl) (by kernel_rfl) rfl ?_ ?_); rotate_left; focus (intro W hW; (try dsimp only at hW); go_split_ands; go_simp; (try (simp (disch := omega) only [IntWalk.i64_in]; (try go_simp))); (try (split; (next => omega); (try go_simp))); try rfl; done))
          try simp only [Act.put, List.setIfInBounds_toArray, List.set_cons_zero, List.set_cons_succ]
          first | (refine pl_no (i := 8) (oi := { dst := some 76, op := .load 63 (.tmp 4), type := 63, pos := "ref.go:40", after := #[{ on := 2, ground := .guard }], guard := some (2, false) }) rfl (by kernel_rfl) (by kernel_rfl) rfl ?_) | ((refine pl_yes (i := 8) (oi := { dst := some 76, op := .load 63 (.tmp 4), type := 63, pos := "ref.go:40", after := #[{ on := 2, ground := .guard }], guard := some (2, false) }) (v := ?_) rfl (by kernel_rfl) (by kernel_rfl) rfl ?_ ?_); rotate_left; focus (intro W hW; (try dsimp only at hW); go_split_ands; go_simp; (try (simp (disch := omega) only [IntWalk.i64_in]; (try go_simp))); (try (split; (next => omega); (try go_simp))); try rfl; done))
          try simp only [Act.put, List.setIfInBounds_toArray, List.set_cons_zero, List.set_cons_succ]
          refine pl_call (i := 9) (oi := { dst := some 77, op := .call { callee := .value (.func 77), args := #[.tmp 75, .tmp 76], argTypes := #[63, 63] }, type := 4, pos := "ref.go:40", after := #[{ on := 7, ground := .data }, { on := 8, ground := .data }, { on := 2, ground := .chain }, { on := 2, ground := .guard }], guard := some (2, false) }) (.bool false) rfl (by kernel_rfl) (by kernel_rfl) rfl (by exact (fun W hW => (Hsm.out W hW.2.2).mono fun e w' h => ⟨h.1, HS.out _ (hW.2.2.trans h.2)⟩)) (fun W => by kernel_rfl) ?_
          try simp only [Act.put, List.setIfInBounds_toArray, List.set_cons_zero, List.set_cons_succ]
          first | (refine pl_no (i := 10) (oi := { dst := some 78, op := .unOp .not 4 (.tmp 77), type := 4, pos := "ref.go:40", after := #[{ on := 9, ground := .data }, { on := 2, ground := .guard }], guard := some (2, false) }) rfl (by kernel_rfl) (by kernel_rfl) rfl ?_) | ((refine pl_yes (i := 10) (oi := { dst := some 78, op := .unOp .not 4 (.tmp 77), type := 4, pos := "ref.go:40", after := #[{ on := 9, ground := .data }, { on := 2, ground := .guard }], guard := some (2, false) }) (v := ?_) rfl (by kernel_rfl) (by kernel_rfl) rfl ?_ ?_); rotate_left; focus (intro W hW; (try dsimp only at hW); go_split_ands; go_simp; (try (simp (disch := omega) only [IntWalk.i64_in]; (try go_simp))); (try (split; (next => omega); (try go_simp))); try rfl; done))
          try simp only [Act.put, List.setIfInBounds_toArray, List.set_cons_zero, List.set_cons_succ]
          ((refine pl_yes (i := 11) (oi := { dst := some 79, op := .pick (.tmp 70) (.const (.bool true)) (.tmp 78), type := 4, pos := "ref.go:40", after := #[{ on := 2, ground := .data }, { on := 10, ground := .data }], guard := none }) (v := ?_) rfl (by kernel_rfl) (by kernel_rfl) rfl ?_ ?_); rotate_left; focus (intro W hW; (try dsimp only at hW); go_split_ands; go_simp; (try (simp (disch := omega) only [IntWalk.i64_in]; (try go_simp))); (try (split; (next => omega); (try go_simp))); try rfl; done))
          try simp only [Act.put, List.setIfInBounds_toArray, List.set_cons_zero, List.set_cons_succ]
          ((refine pl_yes (i := 12) (oi := { dst := some 80, op := .move (.tmp 79), type := 4, pos := "ref.go:40", after := #[{ on := 11, ground := .data }, { on := 9, ground := .chain }], guard := none }) (v := ?_) rfl (by kernel_rfl) (by kernel_rfl) rfl ?_ ?_); rotate_left; focus (intro W hW; (try dsimp only at hW); go_split_ands; go_simp; (try (simp (disch := omega) only [IntWalk.i64_in]; (try go_simp))); (try (split; (next => omega); (try go_simp))); try rfl; done))
          try simp only [Act.put, List.setIfInBounds_toArray, List.set_cons_zero, List.set_cons_succ]
          first | (refine pl_no (i := 13) (oi := { dst := some 81, op := .fieldAddr 82 (.tmp 3) 1, type := 0, pos := "ref.go:40", after := #[{ on := 12, ground := .guard }], guard := some (12, false) }) rfl (by kernel_rfl) (by kernel_rfl) rfl ?_) | ((refine pl_yes (i := 13) (oi := { dst := some 81, op := .fieldAddr 82 (.tmp 3) 1, type := 0, pos := "ref.go:40", after := #[{ on := 12, ground := .guard }], guard := some (12, false) }) (v := ?_) rfl (by kernel_rfl) (by kernel_rfl) rfl ?_ ?_); rotate_left; focus (intro W hW; (try dsimp only at hW); go_split_ands; go_simp; (try (simp (disch := omega) only [IntWalk.i64_in]; (try go_simp))); (try (split; (next => omega); (try go_simp))); try rfl; done))
          try simp only [Act.put, List.setIfInBounds_toArray, List.set_cons_zero, List.set_cons_succ]
          first | (refine pl_no (i := 14) (oi := { dst := some 82, op := .load 80 (.tmp 81), type := 80, pos := "ref.go:40", after := #[{ on := 13, ground := .data }, { on := 12, ground := .guard }], guard := some (12, false) }) rfl (by kernel_rfl) (by kernel_rfl) rfl ?_) | ((refine pl_yes (i := 14) (oi := { dst := some 82, op := .load 80 (.tmp 81), type := 80, pos := "ref.go:40", after := #[{ on := 13, ground := .data }, { on := 12, ground := .guard }], guard := some (12, false) }) (v := ?_) rfl (by kernel_rfl) (by kernel_rfl) rfl ?_ ?_); rotate_left; focus (intro W hW; (try dsimp only at hW); go_split_ands; go_simp; (try (simp (disch := omega) only [IntWalk.i64_in]; (try go_simp))); (try (split; (next => omega); (try go_simp))); try rfl; done))
          try simp only [Act.put, List.setIfInBounds_toArray, List.set_cons_zero, List.set_cons_succ]
          first | (refine pl_no (i := 15) (oi := { dst := some 83, op := .move (.tmp 8), type := 3, pos := "ref.go:40", after := #[{ on := 12, ground := .guard }], guard := some (12, false) }) rfl (by kernel_rfl) (by kernel_rfl) rfl ?_) | ((refine pl_yes (i := 15) (oi := { dst := some 83, op := .move (.tmp 8), type := 3, pos := "ref.go:40", after := #[{ on := 12, ground := .guard }], guard := some (12, false) }) (v := ?_) rfl (by kernel_rfl) (by kernel_rfl) rfl ?_ ?_); rotate_left; focus (intro W hW; (try dsimp only at hW); go_split_ands; go_simp; (try (simp (disch := omega) only [IntWalk.i64_in]; (try go_simp))); (try (split; (next => omega); (try go_simp))); try rfl; done))
          try simp only [Act.put, List.setIfInBounds_toArray, List.set_cons_zero, List.set_cons_succ]
          first | (refine pl_no (i := 16) (oi := { dst := some 84, op := .indexAddr 80 (.tmp 82) (.tmp 83), type := 0, pos := "ref.go:40", after := #[{ on := 14, ground := .data }, { on := 15, ground := .data }, { on := 12, ground := .guard }], guard := some (12, false) }) rfl (by kernel_rfl) (by kernel_rfl) rfl ?_) | ((refine pl_yes (i := 16) (oi := { dst := some 84, op := .indexAddr 80 (.tmp 82) (.tmp 83), type := 0, pos := "ref.go:40", after := #[{ on := 14, ground := .data }, { on := 15, ground := .data }, { on := 12, ground := .guard }], guard := some (12, false) }) (v := ?_) rfl (by kernel_rfl) (by kernel_rfl) rfl ?_ ?_); rotate_left; focus (intro W hW; (try dsimp only at hW); go_split_ands; go_simp; (try (simp (disch := omega) only [IntWalk.i64_in]; (try go_simp))); (try (split; (next => omega); (try go_simp))); try rfl; done))
          try simp only [Act.put, List.setIfInBounds_toArray, List.set_cons_zero, List.set_cons_succ]
          first | (refine pl_no (i := 17) (oi := { dst := some 85, op := .load 22 (.tmp 84), type := 22, pos := "ref.go:40", after := #[{ on := 16, ground := .data }, { on := 12, ground := .guard }], guard := some (12, false) }) rfl (by kernel_rfl) (by kernel_rfl) rfl ?_) | ((refine pl_yes (i := 17) (oi := { dst := some 85, op := .load 22 (.tmp 84), type := 22, pos := "ref.go:40", after := #[{ on := 16, ground := .data }, { on := 12, ground := .guard }], guard := some (12, false) }) (v := ?_) rfl (by kernel_rfl) (by kernel_rfl) rfl ?_ ?_); rotate_left; focus (intro W hW; (try dsimp only at hW); go_split_ands; go_simp; (try (simp (disch := omega) only [IntWalk.i64_in]; (try go_simp))); (try (split; (next => omega); (try go_simp))); try rfl; done))
          try simp only [Act.put, List.setIfInBounds_toArray, List.set_cons_zero, List.set_cons_succ]
          first | (refine pl_no (i := 18) (oi := { dst := some 86, op := .move (.tmp 2), type := 22, pos := "ref.go:40", after := #[{ on := 12, ground := .guard }], guard := some (12, false) }) rfl (by kernel_rfl) (by kernel_rfl) rfl ?_) | ((refine pl_yes (i := 18) (oi := { dst := some 86, op := .move (.tmp 2), type := 22, pos := "ref.go:40", after := #[{ on := 12, ground := .guard }], guard := some (12, false) }) (v := ?_) rfl (by kernel_rfl) (by kernel_rfl) rfl ?_ ?_); rotate_left; focus (intro W hW; (try dsimp only at hW); go_split_ands; go_simp; (try (simp (disch := omega) only [IntWalk.i64_in]; (try go_simp))); (try (split; (next => omega); (try go_simp))); try rfl; done))
          try simp only [Act.put, List.setIfInBounds_toArray, List.set_cons_zero, List.set_cons_succ]
          refine pl_no (i := 19) (oi := { dst := some 87, op := .call { callee := .value (.func 78), args := #[.tmp 85, .tmp 86], argTypes := #[22, 22] }, type := 4, pos := "ref.go:40", after := #[{ on := 17, ground := .data }, { on := 18, ground := .data }, { on := 12, ground := .chain }, { on := 12, ground := .guard }], guard := some (12, false) }) rfl (by kernel_rfl) (by kernel_rfl) rfl ?_
          try simp only [Act.put, List.setIfInBounds_toArray, List.set_cons_zero, List.set_cons_succ]
          first | (refine pl_no (i := 20) (oi := { dst := some 88, op := .unOp .not 4 (.tmp 87), type := 4, pos := "ref.go:40", after := #[{ on := 19, ground := .data }, { on := 12, ground := .guard }], guard := some (12, false) }) rfl (by kernel_rfl) (by kernel_rfl) rfl ?_) | ((refine pl_yes (i := 20) (oi := { dst := some 88, op := .unOp .not 4 (.tmp 87), type := 4, pos := "ref.go:40", after := #[{ on := 19, ground := .data }, { on := 12, ground := .guard }], guard := some (12, false) }) (v := ?_) rfl (by kernel_rfl) (by kernel_rfl) rfl ?_ ?_); rotate_left; focus (intro W hW; (try dsimp only at hW); go_split_ands; go_simp; (try (simp (disch := omega) only [IntWalk.i64_in]; (try go_simp))); (try (split; (next => omega); (try go_simp))); try rfl; done))
          try simp only [Act.put, List.setIfInBounds_toArray, List.set_cons_zero, List.set_cons_succ]
          ((refine pl_yes (i := 21) (oi := { dst := some 89, op := .pick (.tmp 80) (.const (.bool true)) (.tmp 88), type := 4, pos := "ref.go:40", after := #[{ on := 12, ground := .data }, { on := 20, ground := .data }], guard := none }) (v := ?_) rfl (by kernel_rfl) (by kernel_rfl) rfl ?_ ?_); rotate_left; focus (intro W hW; (try dsimp only at hW); go_split_ands; go_simp; (try (simp (disch := omega) only [IntWalk.i64_in]; (try go_simp))); (try (split; (next => omega); (try go_simp))); try rfl; done))
          try simp only [Act.put, List.setIfInBounds_toArray, List.set_cons_zero, List.set_cons_succ]
          refine pl_done (by kernel_rfl)  ?_
          rintro w5 ⟨-, -, hc5⟩
          have hc05 := hc0r.trans hc5
          have p3 := hc05.obj o3 (not_no _)
          have p6 := hc05.obj o6 (not_no _)
          have a0 := cell_obj (i := 0) p3 rfl
          have a1 := cell_obj (i := 1) p3 rfl
          have z0 := cell_obj (i := 0) p6 rfl
          have z1 := cell_obj (i := 1) p6 rfl
          have f0 := free_obj (i := 0) p6
          have f1 := free_obj (i := 1) p6
          have Hret := Lib.hid (show R = (140, rows) from Hg2.out)
          go_wp2_with (with_reducible first | refine stop_append ?_ | refine stop_copy ?_ | refine stop_make ?_ | refine stop_lookup ?_ | refine stop_update ?_ | refine stop_slice ?_ | refine stop_range ?_ | refine stop_next ?_ | refine stop_convert ⟨_, rfl⟩ ?_ | refine stop_convertB ⟨_, _, _, rfl⟩ ?_ | refine stop_eqSlice ⟨_, _, rfl⟩ ?_)
          refine bodyPost_ret (v := .tuple #[.agg #[.slice (some ⟨bL, oL, none⟩) nL cL, .slice (some ⟨bT, oT, none⟩) nT cT], .int .i64 140]) (by simp [results, Try.results40, go_sem, *]) rfl ?_
          exact dret Hret.out (cwr.trans hc5) hb6 HrF.out _ _
        focus
          rcases bb2 with _ | _
          focus
            refine pl_start (fun W => ((W.cell? ⟨b3, 0, none⟩ = some (.slice (some ⟨bL, oL, none⟩) nL cL) ∧ W.cell? ⟨b3, 1, none⟩ = some (.slice (some ⟨bT, oT, none⟩) nT cT)) ∧ (W.cell? ⟨b4, 0, none⟩ = some (.int .i64 t) ∧ W.cell? ⟨b4, 1, none⟩ = some (.slice Aq q.length cq) ∧ W.cell? ⟨b4, 2, none⟩ = some (.slice As s.length cs))) ∧ ((W.cell? ⟨bL, oL + j * 3, none⟩ = some (.int .i64 tj) ∧ W.cell? ⟨bL, oL + j * 3 + 1, none⟩ = some (.slice Bq n1 dq) ∧ W.cell? ⟨bL, oL + j * 3 + 2, none⟩ = some (.slice Bs n2 ds)) ∧ W.cell? ⟨bT, oT + i, none⟩ = some (.slice Bt n3 dt)) ∧ Chg No wr W) (by kernel_rfl) (by kernel_rfl) (HS.out _ cd) ?_
            ((refine pl_yes (i := 0) (oi := { dst := some 68, op := .move (.tmp 8), type := 3, pos := "ref.go:40", after := #[], guard := none }) (v := ?_) rfl (by kernel_rfl) (by kernel_rfl) rfl ?_ ?_); rotate_left; focus (intro W hW; (try dsimp only at hW); go_split_ands; go_simp; (try (simp (disch := omega) only [IntWalk.i64_in]; (try go_simp))); (try (split; (next => omega); (try go_simp))); try rfl; done))
            try simp only [Act.put, List.setIfInBounds_toArray, List.set_cons_zero, List.set_cons_succ]
            ((refine pl_yes (i := 1) (oi := { dst := some 69, op := .binOp .lss 3 (.tmp 68) (.const (.int .i64 0)) 3, type := 4, pos := "ref.go:40", after := #[{ on := 0, ground := .data }], guard := none }) (v := ?_) rfl (by kernel_rfl) (by kernel_rfl) rfl ?_ ?_); rotate_left; focus (intro W hW; (try dsimp only at hW); go_split_ands; go_simp; (try (simp (disch := omega) only [IntWalk.i64_in]; (try go_simp))); (try (split; (next => omega); (try go_simp))); try rfl; done))
            try simp only [Act.put, List.setIfInBounds_toArray, List.set_cons_zero, List.set_cons_succ]
            ((refine pl_yes (i := 2) (oi := { dst := some 70, op := .move (.tmp 69), type := 4, pos := "ref.go:40", after := #[{ on := 1, ground := .data }], guard := none }) (v := ?_) rfl (by kernel_rfl) (by kernel_rfl) rfl ?_ ?_); rotate_left; focus (intro W hW; (try dsimp only at hW); go_split_ands; go_simp; (try (simp (disch := omega) only [IntWalk.i64_in]; (try go_simp))); (try (split; (next => omega); (try go_simp))); try rfl; done))
            try simp only [Act.put, List.setIfInBounds_toArray, List.set_cons_zero, List.set_cons_succ]
            first | (refine pl_no (i := 3) (oi := { dst := some 71, op := .fieldAddr 82 (.tmp 3) 0, type := 0, pos := "ref.go:40", after := #[{ on := 2, ground := .guard }], guard := some (2, false) }) rfl (by kernel_rfl) (by kernel_rfl) rfl ?_) | ((refine pl_yes (i := 3) (oi := { dst := some 71, op := .fieldAddr 82 (.tmp 3) 0, type := 0, pos := "ref.go:40", after := #[{ on := 2, ground := .guard }], guard := some (2, false) }) (v := ?_) rfl (by kernel_rfl) (by kernel_rfl) rfl ?_ ?_); rotate_left; focus (intro W hW; (try dsimp only at hW); go_split_ands; go_simp; (try (simp (disch := omega) only [IntWalk.i64_in]; (try go_simp))); (try (split; (next => omega); (try go_simp))); try rfl; done))
            try simp only [Act.put, List.setIfInBounds_toArray, List.set_cons_zero, List.set_cons_succ]
            first | (refine pl_no (i := 4) (oi := { dst := some 72, op := .load 79 (.tmp 71), type := 79, pos := "ref.go:40", after := #[{ on := 3, ground := .data }, { on := 2, ground := .guard }], guard := some (2, false) }) rfl (by kernel_rfl) (by kernel_rfl) rfl ?_) | ((refine pl_yes (i := 4) (oi := { dst := some 72, op := .load 79 (.tmp 71), type := 79, pos := "ref.go:40", after := #[{ on := 3, ground := .data }, { on := 2, ground := .guard }], guard := some (2, false) }) (v := ?_) rfl (by kernel_rfl) (by kernel_rfl) rfl ?_ ?_); rotate_left; focus (intro W hW; (try dsimp only at hW); go_split_ands; go_simp; (try (simp (disch := omega) only [IntWalk.i64_in]; (try go_simp))); (try (split; (next => omega); (try go_simp))); try rfl; done))
            try simp only [Act.put, List.setIfInBounds_toArray, List.set_cons_zero, List.set_cons_succ]
            first | (refine pl_no (i := 5) (oi := { dst := some 73, op := .move (.tmp 9), type := 3, pos := "ref.go:40", after := #[{ on := 2, ground := .guard }], guard := some (2, false) }) rfl (by kernel_rfl) (by kernel_rfl) rfl ?_) | ((refine pl_yes (i := 5) (oi := { dst := some 73, op := .move (.tmp 9), type := 3, pos := "ref.go:40", after := #[{ on := 2, ground := .guard }], guard := some (2, false) }) (v := ?_) rfl (by kernel_rfl) (by kernel_rfl) rfl ?_ ?_); rotate_left; focus (intro W hW; (try dsimp only at hW); go_split_ands; go_simp; (try (simp (disch := omega) only [IntWalk.i64_in]; (try go_simp))); (try (split; (next => omega); (try go_simp))); try rfl; done))
            try simp only [Act.put, List.setIfInBounds_toArray, List.set_cons_zero, List.set_cons_succ]
            first | (refine pl_no (i := 6) (oi := { dst := some 74, op := .indexAddr 79 (.tmp 72) (.tmp 73), type := 0, pos := "ref.go:40", after := #[{ on := 4, ground := .data }, { on := 5, ground := .data }, { on := 2, ground := .guard }], guard := some (2, false) }) rfl (by kernel_rfl) (by kernel_rfl) rfl ?_) | ((refine pl_yes (i := 6) (oi := { dst := some 74, op := .indexAddr 79 (.tmp 72) (.tmp 73), type := 0, pos := "ref.go:40", after := #[{ on := 4, ground := .data }, { on := 5, ground := .data }, { on := 2, ground := .guard }], guard := some (2, false) }) (v := ?_) rfl (by kernel_rfl) (by kernel_rfl) rfl ?_ ?_); rotate_left; focus (intro W hW; (try dsimp only at hW); go_split_ands; go_simp; (try (simp (disch := omega) only [IntWalk.i64_in]; (try go_simp))); (try (split; (next => omega); (try go_simp))); try rfl; done))
            try simp only [Act.put, List.setIfInBounds_toArray, List.set_cons_zero, List.set_cons_succ]
            first | (refine pl_no (i := 7) (oi := { dst := some 75, op := .load 63 (.tmp 74), type := 63, pos := "ref.go:40", after := #[{ on := 6, ground := .data }, { on := 2, ground := .guard }], guard := some (2, false) }) rfl (by kernel_rfl) (by kernel_rfl) rfl ?_) | ((refine pl_yes (i := 7) (oi := { dst := some 75, op := .load 63 (.tmp 74), type := 63, pos := "ref.go:40", after := #[{ on := 6, ground := .data }, { on := 2, ground := .guard }], guard := some (2, false) }) (v := ?_) rfl (by kernel_rfl) (by kernel_rfl) rfl ?_ ?_); rotate_left; focus (intro W hW; (try dsimp only at hW); go_split_ands; go_simp; (try (simp (disch := omega) only [IntWalk.i64_in]; (try go_simp))); (try (split; (next => omega); (try go_simp))); try rfl; done))
            try simp only [Act.put, List.setIfInBounds_toArray, List.set_cons_zero, List.set_cons_succ]
            first | (refine pl_no (i := 8) (oi := { dst := some 76, op := .load 63 (.tmp 4), type := 63, pos := "ref.go:40", after := #[{ on := 2, ground := .guard }], guard := some (2, false) }) rfl (by kernel_rfl) (by kernel_rfl) rfl ?_) | ((refine pl_yes (i := 8) (oi := { dst := some 76, op := .load 63 (.tmp 4), type := 63, pos := "ref.go:40", after := #[{ on := 2, ground := .guard }], guard := some (2, false) }) (v := ?_) rfl (by kernel_rfl) (by kernel_rfl) rfl ?_ ?_); rotate_left; focus (intro W hW; (try dsimp only at hW); go_split_ands; go_simp; (try (simp (disch := omega) only [IntWalk.i64_in]; (try go_simp))); (try (split; (next => omega); (try go_simp))); try rfl; done))
            try simp only [Act.put, List.setIfInBounds_toArray, List.set_cons_zero, List.set_cons_succ]
            refine pl_call (i := 9) (oi := { dst := some 77, op := .call { callee := .value (.func 77), args := #[.tmp 75, .tmp 76], argTypes := #[63, 63] }, type := 4, pos := "ref.go:40", after := #[{ on := 7, ground := .data }, { on := 8, ground := .data }, { on := 2, ground := .chain }, { on := 2, ground := .guard }], guard := some (2, false) }) (.bool true) rfl (by kernel_rfl) (by kernel_rfl) rfl (by exact (fun W hW => (Hsm.out W hW.2.2).mono fun e w' h => ⟨h.1, HS.out _ (hW.2.2.trans h.2)⟩)) (fun W => by kernel_rfl) ?_
            try simp only [Act.put, List.setIfInBounds_toArray, List.set_cons_zero, List.set_cons_succ]
            first | (refine pl_no (i := 10) (oi := { dst := some 78, op := .unOp .not 4 (.tmp 77), type := 4, pos := "ref.go:40", after := #[{ on := 9, ground := .data }, { on := 2, ground := .guard }], guard := some (2, false) }) rfl (by kernel_rfl) (by kernel_rfl) rfl ?_) | ((refine pl_yes (i := 10) (oi := { dst := some 78, op := .unOp .not 4 (.tmp 77), type := 4, pos := "ref.go:40", after := #[{ on := 9, ground := .data }, { on := 2, ground := .guard }], guard := some (2, false) }) (v := ?_) rfl (by kernel_rfl) (by kernel_rfl) rfl ?_ ?_); rotate_left; focus (intro W hW; (try dsimp only at hW); go_split_ands; go_simp; (try (simp (disch := omega) only [IntWalk.i64_in]; (try go_simp))); (try (split; (next => omega); (try go_simp))); try rfl; done))
            try simp only [Act.put, List.setIfInBounds_toArray, List.set_cons_zero, List.set_cons_succ]
            ((refine pl_yes (i := 11) (oi := { dst := some 79, op := .pick (.tmp 70) (.const (.bool true)) (.tmp 78), type := 4, pos := "ref.go:40", after := #[{ on := 2, ground := .data }, { on := 10, ground := .data }], guard := none }) (v := ?_) rfl (by kernel_rfl) (by kernel_rfl) rfl ?_ ?_); rotate_left; focus (intro W hW; (try dsimp only at hW); go_split_ands; go_simp; (try (simp (disch := omega) only [IntWalk.i64_in]; (try go_simp))); (try (split; (next => omega); (try go_simp))); try rfl; done))
            try simp only [Act.put, List.setIfInBounds_toArray, List.set_cons_zero, List.set_cons_succ]
            ((refine pl_yes (i := 12) (oi := { dst := some 80, op := .move (.tmp 79), type := 4, pos := "ref.go:40", after := #[{ on := 11, ground := .data }, { on := 9, ground := .chain }], guard := none }) (v := ?_) rfl (by kernel_rfl) (by kernel_rfl) rfl ?_ ?_); rotate_left; focus (intro W hW; (try dsimp only at hW); go_split_ands; go_simp; (try (simp (disch := omega) only [IntWalk.i64_in]; (try go_simp))); (try (split; (next => omega); (try go_simp))); try rfl; done))
            try simp only [Act.put, List.setIfInBounds_toArray, List.set_cons_zero, List.set_cons_succ]
            first | (refine pl_no (i := 13) (oi := { dst := some 81, op := .fieldAddr 82 (.tmp 3) 1, type := 0, pos := "ref.go:40", after := #[{ on := 12, ground := .guard }], guard := some (12, false) }) rfl (by kernel_rfl) (by kernel_rfl) rfl ?_) | ((refine pl_yes (i := 13) (oi := { dst := some 81, op := .fieldAddr 82 (.tmp 3) 1, type := 0, pos := "ref.go:40", after := #[{ on := 12, ground := .guard }], guard := some (12, false) }) (v := ?_) rfl (by kernel_rfl) (by kernel_rfl) rfl ?_ ?_); rotate_left; focus (intro W hW; (try dsimp only at hW); go_split_ands; go_simp; (try (simp (disch := omega) only [IntWalk.i64_in]; (try go_simp))); (try (split; (next => omega); (try go_simp))); try rfl; done))
            try simp only [Act.put, List.setIfInBounds_toArray, List.set_cons_zero, List.set_cons_succ]
            first | (refine pl_no (i := 14) (oi := { dst := some 82, op := .load 80 (.tmp 81), type := 80, pos := "ref.go:40", after := #[{ on := 13, ground := .data }, { on := 12, ground := .guard }], guard := some (12, false) }) rfl (by kernel_rfl) (by kernel_rfl) rfl ?_) | ((refine pl_yes (i := 14) (oi := { dst := some 82, op := .load 80 (.tmp 81), type := 80, pos := "ref.go:40", after := #[{ on := 13, ground := .data }, { on := 12, ground := .guard }], guard := some (12, false) }) (v := ?_) rfl (by kernel_rfl) (by kernel_rfl) rfl ?_ ?_); rotate_left; focus (intro W hW; (try dsimp only at hW); go_split_ands; go_simp; (try (simp (disch := omega) only [IntWalk.i64_in]; (try go_simp))); (try (split; (next => omega); (try go_simp))); try rfl; done))
            try simp only [Act.put, List.setIfInBounds_toArray, List.set_cons_zero, List.set_cons_succ]
            first | (refine pl_no (i := 15) (oi := { dst := some 83, op := .move (.tmp 8), type := 3, pos := "ref.go:40", after := #[{ on := 12, ground := .guard }], guard := some (12, false) }) rfl (by kernel_rfl) (by kernel_rfl) rfl ?_) | ((refine pl_yes (i := 15) (oi := { dst := some 83, op := .move (.tmp 8), type := 3, pos := "ref.go:40", after := #[{ on := 12, ground := .guard }], guard := some (12, false) }) (v := ?_) rfl (by kernel_rfl) (by kernel_rfl) rfl ?_ ?_); rotate_left; focus (intro W hW; (try dsimp only at hW); go_split_ands; go_simp; (try (simp (disch := omega) only [IntWalk.i64_in]; (try go_simp))); (try (split; (next => omega); (try go_simp))); try rfl; done))
            try simp only [Act.put, List.setIfInBounds_toArray, List.set_cons_zero, List.set_cons_succ]
            first | (refine pl_no (i := 16) (oi := { dst := some 84, op := .indexAddr 80 (.tmp 82) (.tmp 83), type := 0, pos := "ref.go:40", after := #[{ on := 14, ground := .data }, { on := 15, ground := .data }, { on := 12, ground := .guard }], guard := some (12, false) }) rfl (by kernel_rfl) (by kernel_rfl) rfl ?_) | ((refine pl_yes (i := 16) (oi := { dst := some 84, op := .indexAddr 80 (.tmp 82) (.tmp 83), type := 0, pos := "ref.go:40", after := #[{ on := 14, ground := .data }, { on := 15, ground := .data }, { on := 12, ground := .guard }], guard := some (12, false) }) (v := ?_) rfl (by kernel_rfl) (by kernel_rfl) rfl ?_ ?_); rotate_left; focus (intro W hW; (try dsimp only at hW); go_split_ands; go_simp; (try (simp (disch := omega) only [IntWalk.i64_in]; (try go_simp))); (try (split; (next => omega); (try go_simp))); try rfl; done))
            try simp only [Act.put, List.setIfInBounds_toArray, List.set_cons_zero, List.set_cons_succ]
            first | (refine pl_no (i := 17) (oi := { dst := some 85, op := .load 22 (.tmp 84), type := 22, pos := "ref.go:40", after := #[{ on := 16, ground := .data }, { on := 12, ground := .guard }], guard := some (12, false) }) rfl (by kernel_rfl) (by kernel_rfl) rfl ?_) | ((refine pl_yes (i := 17) (oi := { dst := some 85, op := .load 22 (.tmp 84), type := 22, pos := "ref.go:40", after := #[{ on := 16, ground := .data }, { on := 12, ground := .guard }], guard := some (12, false) }) (v := ?_) rfl (by kernel_rfl) (by kernel_rfl) rfl ?_ ?_); rotate_left; focus (intro W hW; (try dsimp only at hW); go_split_ands; go_simp; (try (simp (disch := omega) only [IntWalk.i64_in]; (try go_simp))); (try (split; (next => omega); (try go_simp))); try rfl; done))
            try simp only [Act.put, List.setIfInBounds_toArray, List.set_cons_zero, List.set_cons_succ]
            first | (refine pl_no (i := 18) (oi := { dst := some 86, op := .move (.tmp 2), type := 22, pos := "ref.go:40", after := #[{ on := 12, ground := .guard }], guard := some (12, false) }) rfl (by kernel_rfl) (by kernel_rfl) rfl ?_) | ((refine pl_yes (i := 18) (oi := { dst := some 86, op := .move (.tmp 2), type := 22, pos := "ref.go:40", after := #[{ on := 12, ground := .guard }], guard := some (12, false) }) (v := ?_) rfl (by kernel_rfl) (by kernel_rfl) rfl ?_ ?_); rotate_left; focus (intro W hW; (try dsimp only at hW); go_split_ands; go_simp; (try (simp (disch := omega) only [IntWalk.i64_in]; (try go_simp))); (try (split; (next => omega); (try go_simp))); try rfl; done))
            try simp only [Act.put, List.setIfInBounds_toArray, List.set_cons_zero, List.set_cons_succ]
            refine pl_call (i := 19) (oi := { dst := some 87, op := .call { callee := .value (.func 78), args := #[.tmp 85, .tmp 86], argTypes := #[22, 22] }, type := 4, pos := "ref.go:40", after := #[{ on := 17, ground := .data }, { on := 18, ground := .data }, { on := 12, ground := .chain }, { on := 12, ground := .guard }], guard := some (12, false) }) (.bool false) rfl (by kernel_rfl) (by kernel_rfl) rfl (by exact (fun W hW => (Heq.out W hW.2.2).mono fun e w' h => ⟨h.1, HS.out _ (hW.2.2.trans h.2)⟩)) (fun W => by kernel_rfl) ?_
            try simp only [Act.put, List.setIfInBounds_toArray, List.set_cons_zero, List.set_cons_succ]
            first | (refine pl_no (i := 20) (oi := { dst := some 88, op := .unOp .not 4 (.tmp 87), type := 4, pos := "ref.go:40", after := #[{ on := 19, ground := .data }, { on := 12, ground := .guard }], guard := some (12, false) }) rfl (by kernel_rfl) (by kernel_rfl) rfl ?_) | ((refine pl_yes (i := 20) (oi := { dst := some 88, op := .unOp .not 4 (.tmp 87), type := 4, pos := "ref.go:40", after := #[{ on := 19, ground := .data }, { on := 12, ground := .guard }], guard := some (12, false) }) (v := ?_) rfl (by kernel_rfl) (by kernel_rfl) rfl ?_ ?_); rotate_left; focus (intro W hW; (try dsimp only at hW); go_split_ands; go_simp; (try (simp (disch := omega) only [IntWalk.i64_in]; (try go_simp))); (try (split; (next => omega); (try go_simp))); try rfl; done))
            try simp only [Act.put, List.setIfInBounds_toArray, List.set_cons_zero, List.set_cons_succ]
            ((refine pl_yes (i := 21) (oi := { dst := some 89, op := .pick (.tmp 80) (.const (.bool true)) (.tmp 88), type := 4, pos := "ref.go:40", after := #[{ on := 12, ground := .data }, { on := 20, ground := .data }], guard := none }) (v := ?_) rfl (by kernel_rfl) (by kernel_rfl) rfl ?_ ?_); rotate_left; focus (intro W hW; (try dsimp only at hW); go_split_ands; go_simp; (try (simp (disch := omega) only [IntWalk.i64_in]; (try go_simp))); (try (split; (next => omega); (try go_simp))); try rfl; done))
            try simp only [Act.put, List.setIfInBounds_toArray, List.set_cons_zero, List.set_cons_succ]
            refine pl_done (by kernel_rfl)  ?_
            rintro w5 ⟨-, -, hc5⟩
            have hc05 := hc0r.trans hc5
            have p3 := hc05.obj o3 (not_no _)
            have p6 := hc05.obj o6 (not_no _)
            have a0 := cell_obj (i := 0) p3 rfl
            have a1 := cell_obj (i := 1) p3 rfl
            have z0 := cell_obj (i := 0) p6 rfl
            have z1 := cell_obj (i := 1) p6 rfl
            have f0 := free_obj (i := 0) p6
            have f1 := free_obj (i := 1) p6
            have Hret := Lib.hid (show R = (140, rows) from Hg2.out)
            go_wp2_with (with_reducible first | refine stop_append ?_ | refine stop_copy ?_ | refine stop_make ?_ | refine stop_lookup ?_ | refine stop_update ?_ | refine stop_slice ?_ | refine stop_range ?_ | refine stop_next ?_ | refine stop_convert ⟨_, rfl⟩ ?_ | refine stop_convertB ⟨_, _, _, rfl⟩ ?_ | refine stop_eqSlice ⟨_, _, rfl⟩ ?_)
            refine bodyPost_ret (v := .tuple #[.agg #[.slice (some ⟨bL, oL, none⟩) nL cL, .slice (some ⟨bT, oT, none⟩) nT cT], .int .i64 140]) (by simp [results, Try.results40, go_sem, *]) rfl ?_
            exact dret Hret.out (cwr.trans hc5) hb6 HrF.out _ _
          focus
            refine pl_start (fun W => ((W.cell? ⟨b3, 0, none⟩ = some (.slice (some ⟨bL, oL, none⟩) nL cL) ∧ W.cell? ⟨b3, 1, none⟩ = some (.slice (some ⟨bT, oT, none⟩) nT cT)) ∧ (W.cell? ⟨b4, 0, none⟩ = some (.int .i64 t) ∧ W.cell? ⟨b4, 1, none⟩ = some (.slice Aq q.length cq) ∧ W.cell? ⟨b4, 2, none⟩ = some (.slice As s.length cs))) ∧ ((W.cell? ⟨bL, oL + j * 3, none⟩ = some (.int .i64 tj) ∧ W.cell? ⟨bL, oL + j * 3 + 1, none⟩ = some (.slice Bq n1 dq) ∧ W.cell? ⟨bL, oL + j * 3 + 2, none⟩ = some (.slice Bs n2 ds)) ∧ W.cell? ⟨bT, oT + i, none⟩ = some (.slice Bt n3 dt)) ∧ Chg No wr W) (by kernel_rfl) (by kernel_rfl) (HS.out _ cd) ?_
            ((refine pl_yes (i := 0) (oi := { dst := some 68, op := .move (.tmp 8), type := 3, pos := "ref.go:40", after := #[], guard := none }) (v := ?_) rfl (by kernel_rfl) (by kernel_rfl) rfl ?_ ?_); rotate_left; focus (intro W hW; (try dsimp only at hW); go_split_ands; go_simp; (try (simp (disch := omega) only [IntWalk.i64_in]; (try go_simp))); (try (split; (next => omega); (try go_simp))); try rfl; done))
            try simp only [Act.put, List.setIfInBounds_toArray, List.set_cons_zero, List.set_cons_succ]
            ((refine pl_yes (i := 1) (oi := { dst := some 69, op := .binOp .lss 3 (.tmp 68) (.const (.int .i64 0)) 3, type := 4, pos := "ref.go:40", after := #[{ on := 0, ground := .data }], guard := none }) (v := ?_) rfl (by kernel_rfl) (by kernel_rfl) rfl ?_ ?_); rotate_left; focus (intro W hW; (try dsimp only at hW); go_split_ands; go_simp; (try (simp (disch := omega) only [IntWalk.i64_in]; (try go_simp))); (try (split; (next => omega); (try go_simp))); try rfl; done))
            try simp only [Act.put, List.setIfInBounds_toArray, List.set_cons_zero, List.set_cons_succ]
            ((refine pl_yes (i := 2) (oi := { dst := some 70, op := .move (.tmp 69), type := 4, pos := "ref.go:40", after := #[{ on := 1, ground := .data }], guard := none }) (v := ?_) rfl (by kernel_rfl) (by kernel_rfl) rfl ?_ ?_); rotate_left; focus (intro W hW; (try dsimp only at hW); go_split_ands; go_simp; (try (simp (disch := omega) only [IntWalk.i64_in]; (try go_simp))); (try (split; (next => omega); (try go_simp))); try rfl; done))
            try simp only [Act.put, List.setIfInBounds_toArray, List.set_cons_zero, List.set_cons_succ]
            first | (refine pl_no (i := 3) (oi := { dst := some 71, op := .fieldAddr 82 (.tmp 3) 0, type := 0, pos := "ref.go:40", after := #[{ on := 2, ground := .guard }], guard := some (2, false) }) rfl (by kernel_rfl) (by kernel_rfl) rfl ?_) | ((refine pl_yes (i := 3) (oi := { dst := some 71, op := .fieldAddr 82 (.tmp 3) 0, type := 0, pos := "ref.go:40", after := #[{ on := 2, ground := .guard }], guard := some (2, false) }) (v := ?_) rfl (by kernel_rfl) (by kernel_rfl) rfl ?_ ?_); rotate_left; focus (intro W hW; (try dsimp only at hW); go_split_ands; go_simp; (try (simp (disch := omega) only [IntWalk.i64_in]; (try go_simp))); (try (split; (next => omega); (try go_simp))); try rfl; done))
            try simp only [Act.put, List.setIfInBounds_toArray, List.set_cons_zero, List.set_cons_succ]
            first | (refine pl_no (i := 4) (oi := { dst := some 72, op := .load 79 (.tmp 71), type := 79, pos := "ref.go:40", after := #[{ on := 3, ground := .data }, { on := 2, ground := .guard }], guard := some (2, false) }) rfl (by kernel_rfl) (by kernel_rfl) rfl ?_) | ((refine pl_yes (i := 4) (oi := { dst := some 72, op := .load 79 (.tmp 71), type := 79, pos := "ref.go:40", after := #[{ on := 3, ground := .data }, { on := 2, ground := .guard }], guard := some (2, false) }) (v := ?_) rfl (by kernel_rfl) (by kernel_rfl) rfl ?_ ?_); rotate_left; focus (intro W hW; (try dsimp only at hW); go_split_ands; go_simp; (try (simp (disch := omega) only [IntWalk.i64_in]; (try go_simp))); (try (split; (next => omega); (try go_simp))); try rfl; done))
            try simp only [Act.put, List.setIfInBounds_toArray, List.set_cons_zero, List.set_cons_succ]
            first | (refine pl_no (i := 5) (oi := { dst := some 73, op := .move (.tmp 9), type := 3, pos := "ref.go:40", after := #[{ on := 2, ground := .guard }], guard := some (2, false) }) rfl (by kernel_rfl) (by kernel_rfl) rfl ?_) | ((refine pl_yes (i := 5) (oi := { dst := some 73, op := .move (.tmp 9), type := 3, pos := "ref.go:40", after := #[{ on := 2, ground := .guard }], guard := some (2, false) }) (v := ?_) rfl (by kernel_rfl) (by kernel_rfl) rfl ?_ ?_); rotate_left; focus (intro W hW; (try dsimp only at hW); go_split_ands; go_simp; (try (simp (disch := omega) only [IntWalk.i64_in]; (try go_simp))); (try (split; (next => omega); (try go_simp))); try rfl; done))
            try simp only [Act.put, List.setIfInBounds_toArray, List.set_cons_zero, List.set_cons_succ]
            first | (refine pl_no (i := 6) (oi := { dst := some 74, op := .indexAddr 79 (.tmp 72) (.tmp 73), type := 0, pos := "ref.go:40", after := #[{ on := 4, ground := .data }, { on := 5, ground := .data }, { on := 2, ground := .guard }], guard := some (2, false) }) rfl (by kernel_rfl) (by kernel_rfl) rfl ?_) | ((refine pl_yes (i := 6) (oi := { dst := some 74, op := .indexAddr 79 (.tmp 72) (.tmp 73), type := 0, pos := "ref.go:40", after := #[{ on := 4, ground := .data }, { on := 5, ground := .data }, { on := 2, ground := .guard }], guard := some (2, false) }) (v := ?_) rfl (by kernel_rfl) (by kernel_rfl) rfl ?_ ?_); rotate_left; focus (intro W hW; (try dsimp only at hW); go_split_ands; go_simp; (try (simp (disch := omega) only [IntWalk.i64_in]; (try go_simp))); (try (split; (next => omega); (try go_simp))); try rfl; done))
            try simp only [Act.put, List.setIfInBounds_toArray, List.set_cons_zero, List.set_cons_succ]
            first | (refine pl_no (i := 7) (oi := { dst := some 75, op := .load 63 (.tmp 74), type := 63, pos := "ref.go:40", after := #[{ on := 6, ground := .data }, { on := 2, ground := .guard }], guard := some (2, false) }) rfl (by kernel_rfl) (by kernel_rfl) rfl ?_) | ((refine pl_yes (i := 7) (oi := { dst := some 75, op := .load 63 (.tmp 74), type := 63, pos := "ref.go:40", after := #[{ on := 6, ground := .data }, { on := 2, ground := .guard }], guard := some (2, false) }) (v := ?_) rfl (by kernel_rfl) (by kernel_rfl) rfl ?_ ?_); rotate_left; focus (intro W hW; (try dsimp only at hW); go_split_ands; go_simp; (try (simp (disch := omega) only [IntWalk.i64_in]; (try go_simp))); (try (split; (next => omega); (try go_simp))); try rfl; done))
            try simp only [Act.put, List.setIfInBounds_toArray, List.set_cons_zero, List.set_cons_succ]
            first | (refine pl_no (i := 8) (oi := { dst := some 76, op := .load 63 (.tmp 4), type := 63, pos := "ref.go:40", after := #[{ on := 2, ground := .guard }], guard := some (2, false) }) rfl (by kernel_rfl) (by kernel_rfl) rfl ?_) | ((refine pl_yes (i := 8) (oi := { dst := some 76, op := .load 63 (.tmp 4), type := 63, pos := "ref.go:40", after := #[{ on := 2, ground := .guard }], guard := some (2, false) }) (v := ?_) rfl (by kernel_rfl) (by kernel_rfl) rfl ?_ ?_); rotate_left; focus (intro W hW; (try dsimp only at hW); go_split_ands; go_simp; (try (simp (disch := omega) only [IntWalk.i64_in]; (try go_simp))); (try (split; (next => omega); (try go_simp))); try rfl; done))
            try simp only [Act.put, List.setIfInBounds_toArray, List.set_cons_zero, List.set_cons_succ]
            refine pl_call (i := 9) (oi := { dst := some 77, op := .call { callee := .value (.func 77), args := #[.tmp 75, .tmp 76], argTypes := #[63, 63] }, type := 4, pos := "ref.go:40", after := #[{ on := 7, ground := .data }, { on := 8, ground := .data }, { on := 2, ground := .chain }, { on := 2, ground := .guard }], guard := some (2, false) }) (.bool true) rfl (by kernel_rfl) (by kernel_rfl) rfl (by exact (fun W hW => (Hsm.out W hW.2.2).mono fun e w' h => ⟨h.1, HS.out _ (hW.2.2.trans h.2)⟩)) (fun W => by kernel_rfl) ?_
            try simp only [Act.put, List.setIfInBounds_toArray, List.set_cons_zero, List.set_cons_succ]
            first | (refine pl_no (i := 10) (oi := { dst := some 78, op := .unOp .not 4 (.tmp 77), type := 4, pos := "ref.go:40", after := #[{ on := 9, ground := .data }, { on := 2, ground := .guard }], guard := some (2, false) }) rfl (by kernel_rfl) (by kernel_rfl) rfl ?_) | ((refine pl_yes (i := 10) (oi := { dst := some 78, op := .unOp .not 4 (.tmp 77), type := 4, pos := "ref.go:40", after := #[{ on := 9, ground := .data }, { on := 2, ground := .guard }], guard := some (2, false) }) (v := ?_) rfl (by kernel_rfl) (by kernel_rfl) rfl ?_ ?_); rotate_left; focus (intro W hW; (try dsimp only at hW); go_split_ands; go_simp; (try (simp (disch := omega) only [IntWalk.i64_in]; (try go_simp))); (try (split; (next => omega); (try go_simp))); try rfl; done))
            try simp only [Act.put, List.setIfInBounds_toArray, List.set_cons_zero, List.set_cons_succ]
            ((refine pl_yes (i := 11) (oi := { dst := some 79, op := .pick (.tmp 70) (.const (.bool true)) (.tmp 78), type := 4, pos := "ref.go:40", after := #[{ on := 2, ground := .data }, { on := 10, ground := .data }], guard := none }) (v := ?_) rfl (by kernel_rfl) (by kernel_rfl) rfl ?_ ?_); rotate_left; focus (intro W hW; (try dsimp only at hW); go_split_ands; go_simp; (try (simp (disch := omega) only [IntWalk.i64_in]; (try go_simp))); (try (split; (next => omega); (try go_simp))); try rfl; done))
            try simp only [Act.put, List.setIfInBounds_toArray, List.set_cons_zero, List.set_cons_succ]
            ((refine pl_yes (i := 12) (oi := { dst := some 80, op := .move (.tmp 79), type := 4, pos := "ref.go:40", after := #[{ on := 11, ground := .data }, { on := 9, ground := .chain }], guard := none }) (v := ?_) rfl (by kernel_rfl) (by kernel_rfl) rfl ?_ ?_); rotate_left; focus (intro W hW; (try dsimp only at hW); go_split_ands; go_simp; (try (simp (disch := omega) only [IntWalk.i64_in]; (try go_simp))); (try (split; (next => omega); (try go_simp))); try rfl; done))
            try simp only [Act.put, List.setIfInBounds_toArray, List.set_cons_zero, List.set_cons_succ]
            first | (refine pl_no (i := 13) (oi := { dst := some 81, op := .fieldAddr 82 (.tmp 3) 1, type := 0, pos := "ref.go:40", after := #[{ on := 12, ground := .guard }], guard := some (12, false) }) rfl (by kernel_rfl) (by kernel_rfl) rfl ?_) | ((refine pl_yes (i := 13) (oi := { dst := some 81, op := .fieldAddr 82 (.tmp 3) 1, type := 0, pos := "ref.go:40", after := #[{ on := 12, ground := .guard }], guard := some (12, false) }) (v := ?_) rfl (by kernel_rfl) (by kernel_rfl) rfl ?_ ?_); rotate_left; focus (intro W hW; (try dsimp only at hW); go_split_ands; go_simp; (try (simp (disch := omega) only [IntWalk.i64_in]; (try go_simp))); (try (split; (next => omega); (try go_simp))); try rfl; done))
            try simp only [Act.put, List.setIfInBounds_toArray, List.set_cons_zero, List.set_cons_succ]
            first | (refine pl_no (i := 14) (oi := { dst := some 82, op := .load 80 (.tmp 81), type := 80, pos := "ref.go:40", after := #[{ on := 13, ground := .data }, { on := 12, ground := .guard }], guard := some (12, false) }) rfl (by kernel_rfl) (by kernel_rfl) rfl ?_) | ((refine pl_yes (i := 14) (oi := { dst := some 82, op := .load 80 (.tmp 81), type := 80, pos := "ref.go:40", after := #[{ on := 13, ground := .data }, { on := 12, ground := .guard }], guard := some (12, false) }) (v := ?_) rfl (by kernel_rfl) (by kernel_rfl) rfl ?_ ?_); rotate_left; focus (intro W hW; (try dsimp only at hW); go_split_ands; go_simp; (try (simp (disch := omega) only [IntWalk.i64_in]; (try go_simp))); (try (split; (next => omega); (try go_simp))); try rfl; done))
            try simp only [Act.put, List.setIfInBounds_toArray, List.set_cons_zero, List.set_cons_succ]
            first | (refine pl_no (i := 15) (oi := { dst := some 83, op := .move (.tmp 8), type := 3, pos := "ref.go:40", after := #[{ on := 12, ground := .guard }], guard := some (12, false) }) rfl (by kernel_rfl) (by kernel_rfl) rfl ?_) | ((refine pl_yes (i := 15) (oi := { dst := some 83, op := .move (.tmp 8), type := 3, pos := "ref.go:40", after := #[{ on := 12, ground := .guard }], guard := some (12, false) }) (v := ?_) rfl (by kernel_rfl) (by kernel_rfl) rfl ?_ ?_); rotate_left; focus (intro W hW; (try dsimp only at hW); go_split_ands; go_simp; (try (simp (disch := omega) only [IntWalk.i64_in]; (try go_simp))); (try (split; (next => omega); (try go_simp))); try rfl; done))
            try simp only [Act.put, List.setIfInBounds_toArray, List.set_cons_zero, List.set_cons_succ]
            first | (refine pl_no (i := 16) (oi := { dst := some 84, op := .indexAddr 80 (.tmp 82) (.tmp 83), type := 0, pos := "ref.go:40", after := #[{ on := 14, ground := .data }, { on := 15, ground := .data }, { on := 12, ground := .guard }], guard := some (12, false) }) rfl (by kernel_rfl) (by kernel_rfl) rfl ?_) | ((refine pl_yes (i := 16) (oi := { dst := some 84, op := .indexAddr 80 (.tmp 82) (.tmp 83), type := 0, pos := "ref.go:40", after := #[{ on := 14, ground := .data }, { on := 15, ground := .data }, { on := 12, ground := .guard }], guard := some (12, false) }) (v := ?_) rfl (by kernel_rfl) (by kernel_rfl) rfl ?_ ?_); rotate_left; focus (intro W hW; (try dsimp only at hW); go_split_ands; go_simp; (try (simp (disch := omega) only [IntWalk.i64_in]; (try go_simp))); (try (split; (next => omega); (try go_simp))); try rfl; done))
            try simp only [Act.put, List.setIfInBounds_toArray, List.set_cons_zero, List.set_cons_succ]
            first | (refine pl_no (i := 17) (oi := { dst := some 85, op := .load 22 (.tmp 84), type := 22, pos := "ref.go:40", after := #[{ on := 16, ground := .data }, { on := 12, ground := .guard }], guard := some (12, false) }) rfl (by kernel_rfl) (by kernel_rfl) rfl ?_) | ((refine pl_yes (i := 17) (oi := { dst := some 85, op := .load 22 (.tmp 84), type := 22, pos := "ref.go:40", after := #[{ on := 16, ground := .data }, { on := 12, ground := .guard }], guard := some (12, false) }) (v := ?_) rfl (by kernel_rfl) (by kernel_rfl) rfl ?_ ?_); rotate_left; focus (intro W hW; (try dsimp only at hW); go_split_ands; go_simp; (try (simp (disch := omega) only [IntWalk.i64_in]; (try go_simp))); (try (split; (next => omega); (try go_simp))); try rfl; done))
            try simp only [Act.put, List.setIfInBounds_toArray, List.set_cons_zero, List.set_cons_succ]
            first | (refine pl_no (i := 18) (oi := { dst := some 86, op := .move (.tmp 2), type := 22, pos := "ref.go:40", after := #[{ on := 12, ground := .guard }], guard := some (12, false) }) rfl (by kernel_rfl) (by kernel_rfl) rfl ?_) | ((refine pl_yes (i := 18) (oi := { dst := some 86, op := .move (.tmp 2), type := 22, pos := "ref.go:40", after := #[{ on := 12, ground := .guard }], guard := some (12, false) }) (v := ?_) rfl (by kernel_rfl) (by kernel_rfl) rfl ?_ ?_); rotate_left; focus (intro W hW; (try dsimp only at hW); go_split_ands; go_simp; (try (simp (disch := omega) only [IntWalk.i64_in]; (try go_simp))); (try (split; (next => omega); (try go_simp))); try rfl; done))
            try simp only [Act.put, List.setIfInBounds_toArray, List.set_cons_zero, List.set_cons_succ]
            refine pl_call (i := 19) (oi := { dst := some 87, op := .call { callee := .value (.func 78), args := #[.tmp 85, .tmp 86], argTypes := #[22, 22] }, type := 4, pos := "ref.go:40", after := #[{ on := 17, ground := .data }, { on := 18, ground := .data }, { on := 12, ground := .chain }, { on := 12, ground := .guard }], guard := some (12, false) }) (.bool true) rfl (by kernel_rfl) (by kernel_rfl) rfl (by exact (fun W hW => (Heq.out W hW.2.2).mono fun e w' h => ⟨h.1, HS.out _ (hW.2.2.trans h.2)⟩)) (fun W => by kernel_rfl) ?_
            try simp only [Act.put, List.setIfInBounds_toArray, List.set_cons_zero, List.set_cons_succ]
            first | (refine pl_no (i := 20) (oi := { dst := some 88, op := .unOp .not 4 (.tmp 87), type := 4, pos := "ref.go:40", after := #[{ on := 19, ground := .data }, { on := 12, ground := .guard }], guard := some (12, false) }) rfl (by kernel_rfl) (by kernel_rfl) rfl ?_) | ((refine pl_yes (i := 20) (oi := { dst := some 88, op := .unOp .not 4 (.tmp 87), type := 4, pos := "ref.go:40", after := #[{ on := 19, ground := .data }, { on := 12, ground := .guard }], guard := some (12, false) }) (v := ?_) rfl (by kernel_rfl) (by kernel_rfl) rfl ?_ ?_); rotate_left; focus (intro W hW; (try dsimp only at hW); go_split_ands; go_simp; (try (simp (disch := omega) only [IntWalk.i64_in]; (try go_simp))); (try (split; (next => omega); (try go_simp))); try rfl; done))
            try simp only [Act.put, List.setIfInBounds_toArray, List.set_cons_zero, List.set_cons_succ]
            ((refine pl_yes (i := 21) (oi := { dst := some 89, op := .pick (.tmp 80) (.const (.bool true)) (.tmp 88), type := 4, pos := "ref.go:40", after := #[{ on := 12, ground := .data }, { on := 20, ground := .data }], guard := none }) (v := ?_) rfl (by kernel_rfl) (by kernel_rfl) rfl ?_ ?_); rotate_left; focus (intro W hW; (try dsimp only at hW); go_split_ands; go_simp; (try (simp (disch := omega) only [IntWalk.i64_in]; (try go_simp))); (try (split; (next => omega); (try go_simp))); try rfl; done))
            try simp only [Act.put, List.setIfInBounds_toArray, List.set_cons_zero, List.set_cons_succ]
            refine pl_done (by kernel_rfl)  ?_
            rintro w5 ⟨-, -, hc5⟩
            have hc05 := hc0r.trans hc5
            have p3 := hc05.obj o3 (not_no _)
            have p6 := hc05.obj o6 (not_no _)
            have a0 := cell_obj (i := 0) p3 rfl
            have a1 := cell_obj (i := 1) p3 rfl
            have z0 := cell_obj (i := 0) p6 rfl
            have z1 := cell_obj (i := 1) p6 rfl
            have f0 := free_obj (i := 0) p6
            have f1 := free_obj (i := 1) p6
            have Hret := Lib.hid (show R = (0, rows) from Hg2.out)
            go_wp2_with (with_reducible first | refine stop_append ?_ | refine stop_copy ?_ | refine stop_make ?_ | refine stop_lookup ?_ | refine stop_update ?_ | refine stop_slice ?_ | refine stop_range ?_ | refine stop_next ?_ | refine stop_convert ⟨_, rfl⟩ ?_ | refine stop_convertB ⟨_, _, _, rfl⟩ ?_ | refine stop_eqSlice ⟨_, _, rfl⟩ ?_)
            refine bodyPost_ret (v := .tuple #[.agg #[.slice (some ⟨bL, oL, none⟩) nL cL, .slice (some ⟨bT, oT, none⟩) nT cT], .int .i64 0]) (by simp [results, Try.results40, go_sem, *]) rfl ?_
            exact dret Hret.out (cwr.trans hc5) hb6 HrF.out _ _
end Go.Proofs.Ytbjpoamnglfjeaa


/- Walks of the register's laws: alive. -/
set_option linter.unusedVariables false
set_option linter.unusedSimpArgs false
namespace Go.Proofs.Ytbjpoamnglfjeaa
open Go.RowKit Cb

theorem num1_sl (w : World) (x : Int) (T : TypeId) : Sl No (w.alloc (.cells #[.int .i64 x] T)) (.slice (some ⟨w.heap.size, 0, none⟩) 1 1) [x] :=
  Sl.lit1 (F := No) (y := x) rfl rfl (not_no _)
def arW (w : World) (T U : TypeId) : World := ((w.alloc (.cells #[.int .i64 0] T)).alloc (.cells #[.int .i64 1] T)).alloc (.cells #[.slice (some ⟨w.heap.size + 1, 0, none⟩) 1 1] U)
theorem ar_world (w : World) (T U : TypeId) : Sl No (arW w T U) (.slice (some ⟨w.heap.size, 0, none⟩) 1 1) [(0 : Int)] ∧ Sl No (arW w T U) (.slice (some ⟨w.heap.size + 1 + 1, 0, none⟩) 1 1) [[(1 : Int)]] ∧ Chg No w (arW w T U) ∧ (arW w T U).heap.size = w.heap.size + 1 + 1 + 1 := by
  have h1 := num1_sl w 0 T
  have h2 := num1_sl (w.alloc (.cells #[.int .i64 0] T)) 1 T
  simp only [World.size_alloc] at h2
  have h1 := (h1.keepNo ((Chg.refl No _).alloc (.cells #[.int .i64 1] T))).keepNo ((Chg.refl No _).alloc (.cells #[.slice (some ⟨w.heap.size + 1, 0, none⟩) 1 1] U))
  have h3 := Sl.lit1 (F := No) (w := (w.alloc (.cells #[.int .i64 0] T)).alloc (.cells #[.int .i64 1] T)) (T := U) (y := [(1 : Int)]) (d := [.slice (some ⟨w.heap.size + 1, 0, none⟩) 1 1]) rfl ⟨_, rfl, h2⟩ (not_no _)
  simp only [World.size_alloc] at h3
  exact ⟨h1, h3, (((Chg.refl No w).alloc _).alloc _).alloc _, by simp [arW]⟩
def arR0 : List Rw := [(1, [0], [[1]], [], false)]
def arL : List Ent := [(1, 1, [3], 0, 0, 0)]
def arR1 : List Rw := [(1, [0], [[1]], arL, true), (2, [0], [[1]], [], false)]
theorem ar_inst : installF arR0 2 [0] [[1]] arL = (0, arR1) := by kernel_rfl
theorem ar_other : installF arR1 2 [0] [[1]] [] = (140, arR1) := by kernel_rfl
theorem ar_start : startF arR1 1 = 3 := by kernel_rfl
theorem ar_find : findF arR1 4 = some (2, 1) := by kernel_rfl
theorem ar_right : rightC 1 [0] [[1]] = true := by kernel_rfl
theorem ar_rows0 : RowsI arR0 := ⟨by decide, by decide, fun i h => by
  match i, h with
  | 0, _ => exact ⟨rfl, ar_right, by simp [arR0, TailB]⟩⟩
theorem ar_tail : TailI arL := ⟨by decide, fun e he => by
  simp only [arL, List.mem_cons, List.not_mem_nil, or_false] at he
  subst he; decide⟩
theorem ar_rows1 : RowsI arR1 := by have := (install_rows (t := 2) (q := [0]) (s := [[1]]) ar_rows0 ar_tail).1; rwa [ar_inst] at this
theorem ar_cfg : CfgI [0] [[1]] := ⟨by decide, by decide, fun x hx => by
  simp only [List.mem_cons, List.not_mem_nil, or_false] at hx
  subst hx; decide⟩
theorem arl_sl (w : World) (n : Nat) (hn : w.heap.size = n) (T U : TypeId) : Sl No ((w.alloc (.cells #[.int .i64 3] T)).alloc (.cells #[.int .i64 1, .int .i64 1, .slice (some ⟨n, 0, none⟩) 1 1, .int .i64 0, .int .i64 0, .int .i64 0] U)) (.slice (some ⟨n + 1, 0, none⟩) 1 1) arL ∧
    Chg No w ((w.alloc (.cells #[.int .i64 3] T)).alloc (.cells #[.int .i64 1, .int .i64 1, .slice (some ⟨n, 0, none⟩) 1 1, .int .i64 0, .int .i64 0, .int .i64 0] U)) := by
  subst hn
  have h1 := num1_sl w 3 T
  have h3 := Sl.lit1 (F := No) (w := w.alloc (.cells #[.int .i64 3] T)) (T := U) (y := ((1, 1, [3], 0, 0, 0) : Ent)) (d := entC (1, 1, [3], 0, 0, 0) (.slice (some ⟨w.heap.size, 0, none⟩) 1 1)) rfl (ent_mk _ h1) (not_no _)
  simp only [World.size_alloc] at h3
  exact ⟨h3, ((Chg.refl No w).alloc _).alloc _⟩
set_option maxRecDepth 100000 in
set_option maxHeartbeats 4000000 in
theorem ralive_any (w : World) : Calls Try.prog 32 #[] w fun e w' => e = .returned (.bool true) ∧ Chg No w w' := by
  obtain ⟨hq, hs, hc0, hz0⟩ := ar_world w 3 46
  go_enter Try.func32, Try.ntmps32
  have hwz : w.heap.size ≤ (arW w 3 46).heap.size := hc0.size
  have o1 := alloc_obj (arW w 3 46) (.cells #[.int .i64 1, .slice (some ⟨w.heap.size, 0, none⟩) 1 1, .slice (some ⟨w.heap.size + 1 + 1, 0, none⟩) 1 1] 68)
  have hca := (Chg.refl No (arW w 3 46)).alloc (.cells #[.int .i64 1, .slice (some ⟨w.heap.size, 0, none⟩) 1 1, .slice (some ⟨w.heap.size + 1 + 1, 0, none⟩) 1 1] 68)
  have hz1 : ((arW w 3 46).alloc (.cells #[.int .i64 1, .slice (some ⟨w.heap.size, 0, none⟩) 1 1, .slice (some ⟨w.heap.size + 1 + 1, 0, none⟩) 1 1] 68)).heap.size = w.heap.size + 1 + 1 + 1 + 1 := by simp [hz0]
  have Hq := Lib.hid ((Sl.up hq (Nat.le_refl _)).keepNo hca)
  have Hs := Lib.hid ((Sl.up hs (Nat.le_refl _)).keepNo hca)
  rw [hz0] at o1 Hq Hs
  clear hq hs hz0
  have hcw := hc0.trans hca
  clear hca hc0 hwz
  have a0 := cell_obj (i := 0) o1 rfl
  have a1 := cell_obj (i := 1) o1 rfl
  have a2 := cell_obj (i := 2) o1 rfl
  unfold arW at *
  go_wp2_with (with_reducible first | refine stop_append ?_ | refine stop_copy ?_ | refine stop_make ?_ | refine stop_lookup ?_ | refine stop_update ?_ | refine stop_slice ?_ | refine stop_range ?_ | refine stop_next ?_ | refine stop_convert ⟨_, rfl⟩ ?_ | refine stop_convertB ⟨_, _, _, rfl⟩ ?_ | refine stop_eqSlice ⟨_, _, rfl⟩ ?_)
  generalize ((((w.alloc (.cells #[.int .i64 0] 3)).alloc (.cells #[.int .i64 1] 3)).alloc (.cells #[.slice (some ⟨w.heap.size + 1, 0, none⟩) 1 1] 46)).alloc (.cells #[.int .i64 1, .slice (some ⟨w.heap.size, 0, none⟩) 1 1, .slice (some ⟨w.heap.size + 1 + 1, 0, none⟩) 1 1] 68)) = w1 at *
  obtain ⟨b, hb⟩ : ∃ b, b = w.heap.size + 1 + 1 + 1 := ⟨_, rfl⟩
  rw [← hb] at a0 a1 a2 o1 Hq Hs hz1 ⊢
  obtain ⟨vq, hvq⟩ : ∃ v : Value, v = .slice (some ⟨w.heap.size, 0, none⟩) 1 1 := ⟨_, rfl⟩
  obtain ⟨vs, hvs⟩ : ∃ v : Value, v = .slice (some ⟨w.heap.size + 1 + 1, 0, none⟩) 1 1 := ⟨_, rfl⟩
  have Hb := Lib.hid hb
  have hN := Lib.hid (new_yes 1 (.slice (some ⟨w.heap.size, 0, none⟩) 1 1) (.slice (some ⟨w.heap.size + 1 + 1, 0, none⟩) 1 1) [0] [[1]] w1 Hq.out.no Hs.out.no ar_right)
  unfold cfgV at hN
  clear hb
  refine hN.out.mono ?_
  rintro e w2 ⟨p, rfl, hc2, hreg⟩
  have hzb : w1.heap.size = b + 1 := hz1
  have hBp : w1.heap.size ≤ p := by obtain ⟨_, _, h, _⟩ := hreg; exact h
  replace a0 := hc2.cell a0 (not_no _)
  replace a1 := hc2.cell a1 (not_no _)
  replace a2 := hc2.cell a2 (not_no _)
  have o2 := hc2.obj o1 (not_no _)
  have f0 := free_obj (i := 0) o2
  have Hreg := Lib.hid hreg
  clear hreg hN o1
  go_wp2_with (with_reducible first | refine stop_append ?_ | refine stop_copy ?_ | refine stop_make ?_ | refine stop_lookup ?_ | refine stop_update ?_ | refine stop_slice ?_ | refine stop_range ?_ | refine stop_next ?_ | refine stop_convert ⟨_, rfl⟩ ?_ | refine stop_convertB ⟨_, _, _, rfl⟩ ?_ | refine stop_eqSlice ⟨_, _, rfl⟩ ?_)
  have h23 : Chg (Ge b) w2 (w2.setCell ⟨b, 0, none⟩ (.int .i64 2)) := chg_ge _
  have h23' : Chg (At b) w2 (w2.setCell ⟨b, 0, none⟩ (.int .i64 2)) := chg_set _
  obtain ⟨hl5, h35⟩ := arl_sl (w2.setCell ⟨b, 0, none⟩ (.int .i64 2)) w2.heap.size (by simp) 3 58
  have o5 := h35.obj (obj_set (i := 0) (u := .int .i64 2) o2 rfl) (not_no _)
  have hreg5 := (Hreg.out.keep h23' (fun k _ hk => by simp only [At] at hk; omega)).keepNo h35
  have hq5 := ((Hq.out.keepNo hc2).keep h23).keepNo h35
  have hs5 := ((Hs.out.keepNo hc2).keep h23).keepNo h35
  have h25 : Chg (At b) w2 ((((w2.setCell ⟨b, 0, none⟩ (.int .i64 2))).alloc (.cells #[.int .i64 3] 3)).alloc (.cells #[.int .i64 1, .int .i64 1, .slice (some ⟨w2.heap.size, 0, none⟩) 1 1, .int .i64 0, .int .i64 0, .int .i64 0] 58)) := h23'.trans h35.of_no
  generalize ((((w2.setCell ⟨b, 0, none⟩ (.int .i64 2))).alloc (.cells #[.int .i64 3] 3)).alloc (.cells #[.int .i64 1, .int .i64 1, .slice (some ⟨w2.heap.size, 0, none⟩) 1 1, .int .i64 0, .int .i64 0, .int .i64 0] 58)) = w5 at *
  clear h23 h23' h35 Hq Hs a0 a1 a2 o2 f0 Hreg
  have hq6 : Sl (Ge w1.heap.size) w5 (.slice (some ⟨w.heap.size, 0, none⟩) 1 1) [(0 : Int)] := hq5.weak (fun k _ hk => by simp only [Ge] at hk ⊢; omega)
  have hs6 : Sl (Ge w1.heap.size) w5 (.slice (some ⟨w.heap.size + 1 + 1, 0, none⟩) 1 1) [[(1 : Int)]] := hs5.weak (fun k _ hk => by simp only [Ge] at hk ⊢; omega)
  have c0 := cell_obj (i := 0) o5 (u := .int .i64 2) rfl
  have c1 := cell_obj (i := 1) o5 (u := .slice (some ⟨w.heap.size, 0, none⟩) 1 1) rfl
  have c2 := cell_obj (i := 2) o5 (u := .slice (some ⟨w.heap.size + 1 + 1, 0, none⟩) 1 1) rfl
  have Hi1 := Lib.hid (fun W (hW : Chg No w5 W) => install_any w1.heap.size p arR0 2 _ _ _ [0] [[1]] arL W (hreg5.keepNo hW) ar_rows0 (hq6.keepNo hW) (hs6.keepNo hW) (hl5.keepNo hW) ar_cfg ar_tail)
  simp only [ar_inst] at Hi1
  have Hi2 := Lib.hid (fun W (hW : Chg (Ge w1.heap.size) w5 W) (hr : RegS W w1.heap.size p arR1) => install_any w1.heap.size p arR1 2 _ _ (.slice none 0 0) [0] [[1]] [] W hr ar_rows1 (hq6.keep hW) (hs6.keep hW) (Sl.nil _ _ _ _) ar_cfg ⟨by decide, fun e he => by cases he⟩)
  simp only [ar_other] at Hi2
  unfold cfgV at Hi1 Hi2
  have hbB : ¬ Ge w1.heap.size b := fun h => by simp only [Ge] at h; omega
  have HS := Lib.hid (show ∀ W, Chg (Ge w1.heap.size) w5 W → (fun W => W.cell? ⟨b, 0, none⟩ = some (.int .i64 2) ∧ W.cell? ⟨b, 1, none⟩ = some (.slice (some ⟨w.heap.size, 0, none⟩) 1 1) ∧ W.cell? ⟨b, 2, none⟩ = some (.slice (some ⟨w.heap.size + 1 + 1, 0, none⟩) 1 1)) W from fun W hW => ⟨hW.cell c0 hbB, hW.cell c1 hbB, hW.cell c2 hbB⟩)
  have cd := (Chg.refl No w5).drew
  have Hreg5 := Lib.hid (fun W (hW : Chg No w5 W) => hreg5.keepNo hW)
  clear hq5 hs5 hl5 hq6 hs6 c0 c1 c2 o5 hreg5
  refine rt_start (fun W => W.cell? ⟨b, 0, none⟩ = some (.int .i64 2) ∧ W.cell? ⟨b, 1, none⟩ = some (.slice (some ⟨w.heap.size, 0, none⟩) 1 1) ∧ W.cell? ⟨b, 2, none⟩ = some (.slice (some ⟨w.heap.size + 1 + 1, 0, none⟩) 1 1)) (by kernel_rfl) ?_
  ((refine rt_yes (i := 0) (oi := { dst := some 30, op := .move (.tmp 2), type := 65, pos := "law.go:40", after := #[], guard := none }) (v := ?_) rfl (by kernel_rfl) (by kernel_rfl) (by kernel_rfl) (fun _ _ _ h => h) rfl ?_ ?_); rotate_left; focus (intro W hW; (try dsimp only at hW); go_split_ands; go_simp; (try (simp (disch := omega) only [IntWalk.i64_in]; (try go_simp))); (try (split; (next => omega); (try go_simp))); try rfl; done))
  try simp only [Act.put, List.setIfInBounds_toArray, List.set_cons_zero, List.set_cons_succ]
  ((refine rt_yes (i := 1) (oi := { dst := some 31, op := .load 68 (.tmp 1), type := 68, pos := "law.go:40", after := #[], guard := none }) (v := ?_) rfl (by kernel_rfl) (by kernel_rfl) (by kernel_rfl) (fun _ _ _ h => h) rfl ?_ ?_); rotate_left; focus (intro W hW; (try dsimp only at hW); go_split_ands; go_simp; (try (simp (disch := omega) only [IntWalk.i64_in]; (try go_simp))); (try (split; (next => omega); (try go_simp))); try rfl; done))
  try simp only [Act.put, List.setIfInBounds_toArray, List.set_cons_zero, List.set_cons_succ]
  ((refine rt_yes (i := 2) (oi := { dst := some 32, op := .move (.tmp 4), type := 28, pos := "law.go:40", after := #[], guard := none }) (v := ?_) rfl (by kernel_rfl) (by kernel_rfl) (by kernel_rfl) (fun _ _ _ h => h) rfl ?_ ?_); rotate_left; focus (intro W hW; (try dsimp only at hW); go_split_ands; go_simp; (try (simp (disch := omega) only [IntWalk.i64_in]; (try go_simp))); (try (split; (next => omega); (try go_simp))); try rfl; done))
  try simp only [Act.put, List.setIfInBounds_toArray, List.set_cons_zero, List.set_cons_succ]
  ((refine rt_yes (i := 4) (oi := { dst := some 34, op := .move (.tmp 2), type := 65, pos := "law.go:40", after := #[], guard := none }) (v := ?_) rfl (by kernel_rfl) (by kernel_rfl) (by kernel_rfl) (fun _ _ _ h => h) rfl ?_ ?_); rotate_left; focus (intro W hW; (try dsimp only at hW); go_split_ands; go_simp; (try (simp (disch := omega) only [IntWalk.i64_in]; (try go_simp))); (try (split; (next => omega); (try go_simp))); try rfl; done))
  try simp only [Act.put, List.setIfInBounds_toArray, List.set_cons_zero, List.set_cons_succ]
  ((refine rt_yes (i := 5) (oi := { dst := some 35, op := .load 68 (.tmp 1), type := 68, pos := "law.go:40", after := #[], guard := none }) (v := ?_) rfl (by kernel_rfl) (by kernel_rfl) (by kernel_rfl) (fun _ _ _ h => h) rfl ?_ ?_); rotate_left; focus (intro W hW; (try dsimp only at hW); go_split_ands; go_simp; (try (simp (disch := omega) only [IntWalk.i64_in]; (try go_simp))); (try (split; (next => omega); (try go_simp))); try rfl; done))
  try simp only [Act.put, List.setIfInBounds_toArray, List.set_cons_zero, List.set_cons_succ]
  refine rt_k (fun W => W.cell? ⟨b, 0, none⟩ = some (.int .i64 2) ∧ W.cell? ⟨b, 1, none⟩ = some (.slice (some ⟨w.heap.size, 0, none⟩) 1 1) ∧ W.cell? ⟨b, 2, none⟩ = some (.slice (some ⟨w.heap.size + 1 + 1, 0, none⟩) 1 1)) (i := 3) (oi := { dst := some 33, op := .call { callee := .value (.func 33), args := #[.tmp 30, .tmp 31, .tmp 32], argTypes := #[65, 68, 28] }, type := 54, pos := "law.go:40", after := #[{ on := 0, ground := .data }, { on := 1, ground := .data }, { on := 2, ground := .data }], guard := none }) (by kernel_rfl) (HS.out _ cd.of_no) (fun _ h => h) rfl (by rfl) (fun K hK => ?_)
  go_simp
  refine (Hi1.out _ cd).mono ?_
  rintro e w6 ⟨rfl, hc6, hr6⟩
  have cd6 := cd.of_no.trans (hc6.ge (Hreg5.out _ cd))
  refine hK _ _ ?_
  clear hK K
  try simp only [Act.put, List.setIfInBounds_toArray, List.set_cons_zero, List.set_cons_succ]
  refine rt_k (fun W => W.cell? ⟨b, 0, none⟩ = some (.int .i64 2) ∧ W.cell? ⟨b, 1, none⟩ = some (.slice (some ⟨w.heap.size, 0, none⟩) 1 1) ∧ W.cell? ⟨b, 2, none⟩ = some (.slice (some ⟨w.heap.size + 1 + 1, 0, none⟩) 1 1)) (i := 6) (oi := { dst := some 36, op := .call { callee := .value (.func 33), args := #[.tmp 34, .tmp 35, .const (.slice none 0 0)], argTypes := #[65, 68, 28] }, type := 54, pos := "law.go:40", after := #[{ on := 4, ground := .data }, { on := 5, ground := .data }, { on := 3, ground := .chain }], guard := none }) (by kernel_rfl) (HS.out _ cd6) (fun _ h => h) rfl (by rfl) (fun K hK => ?_)
  go_simp
  refine (Hi2.out _ cd6 hr6).mono ?_
  rintro e w7 ⟨rfl, hc7, hr7⟩
  have cd7 := cd6.trans (hc7.ge hr6)
  refine hK _ _ ?_
  clear hK K
  try simp only [Act.put, List.setIfInBounds_toArray, List.set_cons_zero, List.set_cons_succ]
  ((refine rt_yes (i := 7) (oi := { dst := some 5, op := .assign (.tmp 33), type := 54, pos := "law.go:40", after := #[{ on := 3, ground := .data }, { on := 6, ground := .chain }, { on := 0, ground := .phase }, { on := 1, ground := .phase }, { on := 2, ground := .phase }, { on := 3, ground := .phase }, { on := 4, ground := .textOnly .lateStores }, { on := 5, ground := .textOnly .lateStores }, { on := 6, ground := .textOnly .lateStoresUnsure }], guard := none }) (v := ?_) rfl (by kernel_rfl) (by kernel_rfl) (by kernel_rfl) (fun _ _ _ h => h) rfl ?_ ?_); rotate_left; focus (intro W hW; (try dsimp only at hW); go_split_ands; go_simp; (try (simp (disch := omega) only [IntWalk.i64_in]; (try go_simp))); (try (split; (next => omega); (try go_simp))); try rfl; done))
  try simp only [Act.put, List.setIfInBounds_toArray, List.set_cons_zero, List.set_cons_succ]
  refine rt_k (fun W => W.cell? ⟨b, 0, none⟩ = some (.int .i64 2) ∧ W.cell? ⟨b, 1, none⟩ = some (.slice (some ⟨w.heap.size, 0, none⟩) 1 1) ∧ W.cell? ⟨b, 2, none⟩ = some (.slice (some ⟨w.heap.size + 1 + 1, 0, none⟩) 1 1)) (i := 8) (oi := { dst := some 6, op := .assign (.tmp 36), type := 54, pos := "law.go:40", after := #[{ on := 6, ground := .data }, { on := 7, ground := .chain }, { on := 0, ground := .phase }, { on := 1, ground := .phase }, { on := 2, ground := .phase }, { on := 3, ground := .phase }, { on := 4, ground := .phase }, { on := 5, ground := .phase }, { on := 6, ground := .phase }, { on := 7, ground := .phase }], guard := none }) (by kernel_rfl) (HS.out _ cd7) (fun _ h => h) rfl (by rfl) (fun K hK => ?_)
  go_simp
  refine hK _ _ ?_
  clear hK K
  try simp only [Act.put, List.setIfInBounds_toArray, List.set_cons_zero, List.set_cons_succ]
  refine rt_done (by kernel_rfl)  ?_
  have Hr7 := Lib.hid (fun W (hW : Chg No w7 W) => hr7.keepNo hW)
  have hst := rstart_yes w1.heap.size p arR1 w7 hr7 ar_rows1 1 (by decide)
  rw [show firstR arR1 + ((1 : Nat) : Int) = 2 from rfl, ar_start] at hst
  have Hst := Lib.hid hst
  clear hst hr6 hr7 HS Hi1 Hi2 Hreg5
  go_wp2_with (with_reducible first | refine stop_append ?_ | refine stop_copy ?_ | refine stop_make ?_ | refine stop_lookup ?_ | refine stop_update ?_ | refine stop_slice ?_ | refine stop_range ?_ | refine stop_next ?_ | refine stop_convert ⟨_, rfl⟩ ?_ | refine stop_convertB ⟨_, _, _, rfl⟩ ?_ | refine stop_eqSlice ⟨_, _, rfl⟩ ?_)
  refine Hst.out.mono ?_
  rintro e w8 ⟨rfl, hc8⟩
  have Hfd := Lib.hid (rfind_any w1.heap.size p arR1 w8 (Hr7.out _ hc8) ar_rows1 4 (by decide))
  rw [ar_find] at Hfd
  go_wp2_with (with_reducible first | refine stop_append ?_ | refine stop_copy ?_ | refine stop_make ?_ | refine stop_lookup ?_ | refine stop_update ?_ | refine stop_slice ?_ | refine stop_range ?_ | refine stop_next ?_ | refine stop_convert ⟨_, rfl⟩ ?_ | refine stop_convertB ⟨_, _, _, rfl⟩ ?_ | refine stop_eqSlice ⟨_, _, rfl⟩ ?_)
  refine Hfd.out.mono ?_
  rintro e w9 ⟨he, hc9⟩
  obtain rfl := he
  have c79 := hc8.trans hc9
  have c90 := c79.alloc (.cells #[.int .i64 2, .int .i64 1] 50)
  have oq := alloc_obj w9 (.cells #[.int .i64 2, .int .i64 1] 50)
  have q0 := cell_obj (i := 0) oq (u := .int .i64 2) rfl
  have q1 := cell_obj (i := 1) oq (u := .int .i64 1) rfl
  clear oq
  go_wp2_with (with_reducible first | refine stop_append ?_ | refine stop_copy ?_ | refine stop_make ?_ | refine stop_lookup ?_ | refine stop_update ?_ | refine stop_slice ?_ | refine stop_range ?_ | refine stop_next ?_ | refine stop_convert ⟨_, rfl⟩ ?_ | refine stop_convertB ⟨_, _, _, rfl⟩ ?_ | refine stop_eqSlice ⟨_, _, rfl⟩ ?_)
  have Hcu := Lib.hid (rcurrent_any w1.heap.size p arR1 _ (Hr7.out _ c90) ar_rows1)
  rw [show firstR arR1 + ((arR1.length - 1 : Nat) : Int) = 2 from rfl] at Hcu
  generalize w9.alloc (.cells #[.int .i64 2, .int .i64 1] 50) = w10 at *
  refine Hcu.out.mono ?_
  rintro e w11 ⟨rfl, hc11⟩
  have c711 := c90.trans hc11
  go_wp2_with (with_reducible first | refine stop_append ?_ | refine stop_copy ?_ | refine stop_make ?_ | refine stop_lookup ?_ | refine stop_update ?_ | refine stop_slice ?_ | refine stop_range ?_ | refine stop_next ?_ | refine stop_convert ⟨_, rfl⟩ ?_ | refine stop_convertB ⟨_, _, _, rfl⟩ ?_ | refine stop_eqSlice ⟨_, _, rfl⟩ ?_)
  have Hfi := Lib.hid (rfirst_any w1.heap.size p arR1 _ (Hr7.out _ c711) ar_rows1)
  rw [show firstR arR1 = 1 from rfl] at Hfi
  refine Hfi.out.mono ?_
  rintro e w12 ⟨rfl, hc12⟩
  have c712 := c711.trans hc12
  go_wp2_with (with_reducible first | refine stop_append ?_ | refine stop_copy ?_ | refine stop_make ?_ | refine stop_lookup ?_ | refine stop_update ?_ | refine stop_slice ?_ | refine stop_range ?_ | refine stop_next ?_ | refine stop_convert ⟨_, rfl⟩ ?_ | refine stop_convertB ⟨_, _, _, rfl⟩ ?_ | refine stop_eqSlice ⟨_, _, rfl⟩ ?_)
  go_ret
  have hz := hcw.size
  have hz2 := (hcw.trans hc2).size
  have hb := Hb.out
  refine ⟨rfl, ((((hcw.trans hc2).old h25 (fun k hk => by simp only [At] at hk; omega)).old cd7 (fun k hk => by simp only [Ge] at hk; omega))).trans c712⟩
end Go.Proofs.Ytbjpoamnglfjeaa

